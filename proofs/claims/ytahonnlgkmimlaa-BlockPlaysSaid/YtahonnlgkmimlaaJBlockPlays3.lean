/-
  Texts joined by program: BlockY, ShelfB, BlockF, BlockR, TabG, WalkB1, WalkB2, WalkB3.
-/
import Derived.Shelf.SlIterI.Nil
import Derived.Ground.GgzProg
import Derived.Test.YtahonnlgkmimlaaProg
import Derived.Test.YtahonnlgkmimlaaJBlockPlays2
set_option linter.unusedSimpArgs false
set_option linter.unusedVariables false
namespace Go.Proofs.Ytahonnlgkmimlaa.Deep

/-- The darts that are left. C: the visit of a next vertex. -/
inductive Steps (C : Int → Int → St → St → Prop) (T : Int → Int) (v via : Int) : List Int → St → St → Prop
  | nil {s} : Steps C T v via [] s s
  | lp {d ds s s'} : T d = v → Steps C T v via ds { s with ins := s.ins ++ [(d / 2, [d / 2])] } s' → Steps C T v via (d :: ds) s s'
  | via {d ds s s'} : T d ≠ v → d / 2 = via → Steps C T v via ds s s' → Steps C T v via (d :: ds) s s'
  | keep {d ds s s1 s'} : T d ≠ v → d / 2 ≠ via → s.met (T d) = 0 → C (T d) (d / 2) { s with stk := s.stk ++ [d / 2] } s1 → s1.low (T d) < s1.met v →
      Steps C T v via ds { s1 with low := upd s1.low v (min (s1.low v) (s1.low (T d))) } s' → Steps C T v via (d :: ds) s s'
  | take {d ds s s1 s' pre S} : T d ≠ v → d / 2 ≠ via → s.met (T d) = 0 → C (T d) (d / 2) { s with stk := s.stk ++ [d / 2] } s1 → ¬ s1.low (T d) < s1.met v → s1.stk = pre ++ d / 2 :: S → d / 2 ∉ pre →
      Steps C T v via ds { s1 with low := upd s1.low v (min (s1.low v) (s1.low (T d))), stk := pre, blk := s1.blk ++ [d / 2 :: S], ins := s1.ins ++ [key (d / 2 :: S)] } s' → Steps C T v via (d :: ds) s s'
  | back {d ds s s'} : T d ≠ v → d / 2 ≠ via → s.met (T d) ≠ 0 → s.met (T d) < s.met v → Steps C T v via ds { s with stk := s.stk ++ [d / 2], low := upd s.low v (min (s.low v) (s.met (T d))) } s' → Steps C T v via (d :: ds) s s'
  | skip {d ds s s'} : T d ≠ v → d / 2 ≠ via → s.met (T d) ≠ 0 → ¬ s.met (T d) < s.met v → Steps C T v via ds s s' → Steps C T v via (d :: ds) s s'

/-- A visit whose calls go h deep at most. -/
def Visit (D : Int → List Int) (T : Int → Int) : Nat → Int → Int → St → St → Prop
  | 0, _, _, _, _ => False
  | h + 1, v, via, s, s' => Steps (Visit D T h) T v via (D v) (enter v s) s'

section
variable {C C' : Int → Int → St → St → Prop} {D : Int → List Int} {T : Int → Int} {v via d : Int} {ds : List Int} {s s' : St}

theorem Steps.mono (hC : ∀ a b s s', C a b s s' → C' a b s s') (h : Steps C T v via ds s s') : Steps C' T v via ds s s' := by
  induction h with
  | nil => exact .nil
  | lp h1 _ ih => exact .lp h1 ih
  | via h1 h2 _ ih => exact .via h1 h2 ih
  | keep h1 h2 h3 h4 h5 _ ih => exact .keep h1 h2 h3 (hC _ _ _ _ h4) h5 ih
  | take h1 h2 h3 h4 h5 h6 h7 _ ih => exact .take h1 h2 h3 (hC _ _ _ _ h4) h5 h6 h7 ih
  | back h1 h2 h3 h4 _ ih => exact .back h1 h2 h3 h4 ih
  | skip h1 h2 h3 h4 _ ih => exact .skip h1 h2 h3 h4 ih
theorem visit_succ : ∀ h v via s s', Visit D T h v via s s' → Visit D T (h + 1) v via s s'
  | 0, _, _, _, _, h => h.elim
  | h + 1, v, via, s, s', hv => Steps.mono (visit_succ h) hv
theorem visit_le {h k : Nat} (hk : h ≤ k) : ∀ {v via s s'}, Visit D T h v via s s' → Visit D T k v via s s' := by
  intro v via s s' hv
  obtain ⟨m, rfl⟩ := Nat.exists_eq_add_of_le hk
  clear hk
  induction m with
  | zero => exact hv
  | succ m ih => exact visit_succ _ _ _ _ _ ih
theorem loop_steps (h : Loop D T v via ds s s') : ∃ n, Steps (Visit D T n) T v via ds s s' := by
  induction h with
  | nil => exact ⟨0, .nil⟩
  | lp h1 _ ih => obtain ⟨n, h⟩ := ih; exact ⟨n, .lp h1 h⟩
  | via h1 h2 _ ih => obtain ⟨n, h⟩ := ih; exact ⟨n, .via h1 h2 h⟩
  | keep h1 h2 h3 _ h5 _ ih1 ih2 =>
    obtain ⟨n, hn⟩ := ih1; obtain ⟨m, hm⟩ := ih2
    exact ⟨max (n + 1) m, .keep h1 h2 h3 (visit_le (h := n + 1) (by omega) hn) h5 (hm.mono fun _ _ _ _ => visit_le (by omega))⟩
  | take h1 h2 h3 _ h5 h6 h7 _ ih1 ih2 =>
    obtain ⟨n, hn⟩ := ih1; obtain ⟨m, hm⟩ := ih2
    exact ⟨max (n + 1) m, .take h1 h2 h3 (visit_le (h := n + 1) (by omega) hn) h5 h6 h7 (hm.mono fun _ _ _ _ => visit_le (by omega))⟩
  | back h1 h2 h3 h4 _ ih => obtain ⟨n, h⟩ := ih; exact ⟨n, .back h1 h2 h3 h4 h⟩
  | skip h1 h2 h3 h4 _ ih => obtain ⟨n, h⟩ := ih; exact ⟨n, .skip h1 h2 h3 h4 h⟩
theorem loop_visit (h : Loop D T v via (D v) (enter v s) s') : ∃ n, Visit D T n v via s s' := let ⟨n, h⟩ := loop_steps h; ⟨n + 1, h⟩

theorem steps_nil (h : Steps C T v via [] s s') : s = s' := by cases h; rfl
theorem steps_lp (h : Steps C T v via (d :: ds) s s') (h1 : T d = v) : Steps C T v via ds { s with ins := s.ins ++ [(d / 2, [d / 2])] } s' := by
  cases h <;> first | assumption | contradiction
theorem steps_via (h : Steps C T v via (d :: ds) s s') (h1 : T d ≠ v) (h2 : d / 2 = via) : Steps C T v via ds s s' := by
  cases h <;> first | assumption | contradiction
theorem steps_go (h : Steps C T v via (d :: ds) s s') (h1 : T d ≠ v) (h2 : d / 2 ≠ via) (h3 : s.met (T d) = 0) : ∃ s1, C (T d) (d / 2) { s with stk := s.stk ++ [d / 2] } s1 ∧
    (s1.low (T d) < s1.met v → Steps C T v via ds { s1 with low := upd s1.low v (min (s1.low v) (s1.low (T d))) } s') ∧
    (¬ s1.low (T d) < s1.met v → ∃ pre S, s1.stk = pre ++ d / 2 :: S ∧ d / 2 ∉ pre ∧
      Steps C T v via ds { s1 with low := upd s1.low v (min (s1.low v) (s1.low (T d))), stk := pre, blk := s1.blk ++ [d / 2 :: S], ins := s1.ins ++ [key (d / 2 :: S)] } s') := by
  cases h with
  | keep _ _ _ h4 h5 h6 => exact ⟨_, h4, fun _ => h6, fun h => absurd h5 h⟩
  | take _ _ _ h4 h5 h6 h7 h8 => exact ⟨_, h4, fun h => absurd h h5, fun _ => ⟨_, _, h6, h7, h8⟩⟩
  | _ => contradiction
theorem steps_back (h : Steps C T v via (d :: ds) s s') (h1 : T d ≠ v) (h2 : d / 2 ≠ via) (h3 : s.met (T d) ≠ 0) (h4 : s.met (T d) < s.met v) : Steps C T v via ds { s with stk := s.stk ++ [d / 2], low := upd s.low v (min (s.low v) (s.met (T d))) } s' := by
  cases h <;> first | assumption | contradiction
theorem steps_skip (h : Steps C T v via (d :: ds) s s') (h1 : T d ≠ v) (h2 : d / 2 ≠ via) (h3 : s.met (T d) ≠ 0) (h4 : ¬ s.met (T d) < s.met v) : Steps C T v via ds s s' := by
  cases h <;> first | assumption | contradiction

/-- Bounds. -/
structure Bd (s : St) : Prop where
  cnt : s.cnt ≤ 1000000000
  len : (s.blk.flatten ++ s.stk).length ≤ 1000000000
  mem : ∀ f ∈ s.blk.flatten ++ s.stk, 0 ≤ f ∧ f ≤ 1000000000
  ins : s.ins.length ≤ 1000000000

theorem Bd.push {l : Int → Int} (h : Bd { s with stk := s.stk ++ [d], low := l }) : Bd s := by
  obtain ⟨h1, h2, h3, h4⟩ := h
  refine ⟨h1, ?_, fun f hf => h3 f ?_, h4⟩
  · simp only [List.length_append, List.length_cons, List.length_nil] at h2 ⊢; omega
  · simp only [List.mem_append] at hf ⊢; exact hf.elim .inl fun h => .inr (.inl h)
theorem Bd.enter (h : Bd (enter v s)) : Bd s := ⟨by have := h.cnt; simp only [Deep.enter] at this; omega, h.len, h.mem, h.ins⟩
theorem Bd.take {pre S : List Int} {q : Int × List Int} {l : Int → Int} (hs : s.stk = pre ++ d :: S) (h : Bd { s with low := l, stk := pre, blk := s.blk ++ [d :: S], ins := s.ins ++ [q] }) : Bd s := by
  obtain ⟨h1, h2, h3, h4⟩ := h
  refine ⟨h1, ?_, fun f hf => h3 f ?_, ?_⟩
  · rw [hs]; simp only [List.length_append, List.flatten_append, List.flatten_cons, List.flatten_nil, List.append_nil, List.length_cons] at h2 ⊢; omega
  · rw [hs] at hf; simp only [List.mem_append, List.flatten_append, List.flatten_cons, List.flatten_nil, List.append_nil, List.mem_cons] at hf ⊢
    rcases hf with h | h | h | h
    · exact .inl (.inl h)
    · exact .inr h
    · exact .inl (.inr (.inl h))
    · exact .inl (.inr (.inr h))
  · simp only [List.length_append, List.length_cons, List.length_nil] at h4; omega
theorem Bd.lp {q : Int × List Int} (h : Bd { s with ins := s.ins ++ [q] }) : Bd s := ⟨h.cnt, h.len, h.mem, by have := h.ins; simp only [List.length_append, List.length_cons, List.length_nil] at this; omega⟩
theorem Bd.low {l : Int → Int} (h : Bd { s with low := l }) : Bd s := ⟨h.cnt, h.len, h.mem, h.ins⟩
theorem steps_bd (hC : ∀ a b s s', C a b s s' → Bd s' → Bd s) (h : Steps C T v via ds s s') (hb : Bd s') : Bd s := by
  induction h with
  | nil => exact hb
  | lp _ _ ih => exact (ih hb).lp
  | via _ _ _ ih => exact ih hb
  | keep _ _ _ h4 _ _ ih => exact Bd.push (l := _) (hC _ _ _ _ h4 (ih hb).low)
  | take _ _ _ h4 _ h6 _ _ ih => exact Bd.push (l := _) (hC _ _ _ _ h4 (Bd.take h6 (ih hb)))
  | back _ _ _ _ _ ih => exact (ih hb).push
  | skip _ _ _ _ _ ih => exact ih hb
theorem visit_bd : ∀ h v via s s', Visit D T h v via s s' → Bd s' → Bd s
  | 0, _, _, _, _, h, _ => h.elim
  | h + 1, _, _, _, _, hv, hb => (steps_bd (visit_bd h) hv hb).enter

theorem steps_cnt (hC : ∀ a b s s', C a b s s' → s.cnt ≤ s'.cnt) (h : Steps C T v via ds s s') : s.cnt ≤ s'.cnt := by
  induction h with
  | nil => exact Int.le_refl _
  | lp _ _ ih => exact ih
  | via _ _ _ ih => exact ih
  | @keep d ds s s1 s' _ _ _ h4 _ _ ih => have h5 := hC _ _ _ _ h4; simp only at h5; have h6 : s1.cnt ≤ s'.cnt := ih; omega
  | @take d ds s s1 s' pre S _ _ _ h4 _ _ _ _ ih => have h5 := hC _ _ _ _ h4; simp only at h5; have h6 : s1.cnt ≤ s'.cnt := ih; omega
  | back _ _ _ _ _ ih => exact ih
  | skip _ _ _ _ _ ih => exact ih
theorem visit_cnt : ∀ h v via s s', Visit D T h v via s s' → s.cnt ≤ s'.cnt
  | 0, _, _, _, _, h => h.elim
  | h + 1, v, _, s, _, hv => by have := steps_cnt (visit_cnt h) hv; simp only [enter] at this; omega

/-- The darts of those that weren't met. -/
def ahead (D : Int → List Int) (U : List Int) (s : St) : Nat := (U.map fun x => if s.met x = 0 then (D x).length else 0).sum
theorem ahead_le {U : List Int} {s s' : St} (h : ∀ x, s.met x ≠ 0 → s'.met x ≠ 0) : ahead D U s' ≤ ahead D U s := by
  unfold ahead
  induction U with
  | nil => exact Nat.le_refl _
  | cons x U ih =>
    simp only [List.map_cons, List.sum_cons]
    by_cases h1 : s'.met x = 0
    · have h2 : s.met x = 0 := Classical.byContradiction fun q => h x q h1
      rw [if_pos h1, if_pos h2]; omega
    · rw [if_neg h1]; split <;> omega
theorem ahead_enter {U : List Int} {w : Int} (hw : w ∈ U) (h0 : s.met w = 0) (hc : 0 ≤ s.cnt) : ahead D U (enter w s) + (D w).length ≤ ahead D U s := by
  have hm : ∀ x, s.met x ≠ 0 → (enter w s).met x ≠ 0 := fun x hx => by
    rw [show (enter w s).met x = s.met x from upd_ne _ _ (fun e => hx (by rw [e]; exact h0))]; exact hx
  have h1 : (enter w s).met w ≠ 0 := by rw [show (enter w s).met w = s.cnt + 1 from upd_same _ _ _]; omega
  unfold ahead
  induction U with
  | nil => simp at hw
  | cons x U ih =>
    have hle := ahead_le (D := D) (U := U) hm
    unfold ahead at hle
    simp only [List.map_cons, List.sum_cons]
    by_cases e : x = w
    · subst e; rw [if_neg h1, if_pos h0]; omega
    · have := ih ((List.mem_cons.1 hw).resolve_left fun q => e q.symm)
      rw [show (enter w s).met x = s.met x from upd_ne _ _ e]
      omega
theorem loop_cnt (h : Loop D T v via ds s s') : s.cnt ≤ s'.cnt := by
  induction h with
  | nil => exact Int.le_refl _
  | lp _ _ ih => exact ih
  | via _ _ _ ih => exact ih
  | @keep v via d ds s s1 s' _ _ _ _ _ _ ih1 ih2 => have h3 : s.cnt + 1 ≤ s1.cnt := ih1; have h4 : s1.cnt ≤ s'.cnt := ih2; omega
  | @take v via d ds s s1 s' pre S _ _ _ _ _ _ _ _ ih1 ih2 => have h3 : s.cnt + 1 ≤ s1.cnt := ih1; have h4 : s1.cnt ≤ s'.cnt := ih2; omega
  | back _ _ _ _ _ ih => exact ih
  | skip _ _ _ _ _ ih => exact ih
theorem loop_met (h : Loop D T v via ds s s') (hc : 0 ≤ s.cnt) : ∀ x, s.met x ≠ 0 → s'.met x ≠ 0 := by
  induction h with
  | nil => exact fun _ h => h
  | lp _ _ ih => exact ih hc
  | via _ _ _ ih => exact ih hc
  | @keep v via d ds s s1 s' _ _ _ h1 _ _ ih1 ih2 =>
    have := loop_cnt h1
    simp only [enter] at this
    intro x hx
    refine ih2 (by show 0 ≤ s1.cnt; omega) x (ih1 (by simp only [enter]; omega) x ?_)
    by_cases e : x = T d
    · rw [e, show (enter (T d) { s with stk := s.stk ++ [d / 2] }).met (T d) = s.cnt + 1 from upd_same _ _ _]; omega
    · rw [show (enter (T d) { s with stk := s.stk ++ [d / 2] }).met x = s.met x from upd_ne _ _ e]; exact hx
  | @take v via d ds s s1 s' pre S _ _ _ h1 _ _ _ _ ih1 ih2 =>
    have := loop_cnt h1
    simp only [enter] at this
    intro x hx
    refine ih2 (by show 0 ≤ s1.cnt; omega) x (ih1 (by simp only [enter]; omega) x ?_)
    by_cases e : x = T d
    · rw [e, show (enter (T d) { s with stk := s.stk ++ [d / 2] }).met (T d) = s.cnt + 1 from upd_same _ _ _]; omega
    · rw [show (enter (T d) { s with stk := s.stk ++ [d / 2] }).met x = s.met x from upd_ne _ _ e]; exact hx
  | back _ _ _ _ _ ih => exact ih hc
  | skip _ _ _ _ _ ih => exact ih hc
/-- What is counted, and what is written down, is bounded by the vertices and their darts. -/
theorem loop_ins {U : List Int} (hU : ∀ v d, d ∈ D v → T d ∈ U) (h : Loop D T v via ds s s') : ∀ (hds : ∀ d ∈ ds, T d ∈ U), 0 ≤ s.cnt → s'.ins.length + ahead D U s' ≤ s.ins.length + ds.length + ahead D U s ∧ s'.cnt + (left U s' : Int) ≤ s.cnt + (left U s : Int) := by
  induction h with
  | nil => intro _ _; exact ⟨by simp, Int.le_refl _⟩
  | lp _ _ ih =>
    intro hd hc
    obtain ⟨a, b⟩ := ih (fun x hx => hd x (List.mem_cons_of_mem _ hx)) hc
    refine ⟨?_, b⟩
    have e : ∀ (s : St) q, ahead D U { s with ins := q } = ahead D U s := fun _ _ => rfl
    simp only [List.length_append, List.length_cons, List.length_nil, e] at a ⊢
    omega
  | via _ _ _ ih =>
    intro hd hc
    obtain ⟨a, b⟩ := ih (fun x hx => hd x (List.mem_cons_of_mem _ hx)) hc
    exact ⟨by simp only [List.length_cons]; omega, b⟩
  | @keep v via d ds s s1 s' _ _ h3 h1 _ _ ih1 ih2 =>
    intro hd hc
    obtain ⟨a, b⟩ := ih1 (hU _) (by simp only [enter]; omega)
    have hcn := loop_cnt h1
    simp only [enter] at hcn
    obtain ⟨a2, b2⟩ := ih2 (fun x hx => hd x (List.mem_cons_of_mem _ hx)) (by show 0 ≤ s1.cnt; omega)
    have hw := hd d (by simp)
    have e1 := ahead_enter (D := D) (s := { s with stk := s.stk ++ [d / 2] }) hw h3 hc
    have e2 := left_lt (U := U) (s := s) (s' := enter (T d) { s with stk := s.stk ++ [d / 2] }) (v := T d) (fun x hx => by
      rw [show (enter (T d) { s with stk := s.stk ++ [d / 2] }).met x = s.met x from upd_ne _ _ (fun e => hx (by rw [e]; exact h3))]; exact hx) hw h3 (by rw [show (enter (T d) { s with stk := s.stk ++ [d / 2] }).met (T d) = s.cnt + 1 from upd_same _ _ _]; omega)
    have e3 : ahead D U { s with stk := s.stk ++ [d / 2] } = ahead D U s := rfl
    have e4 : ∀ l, ahead D U { s1 with low := l } = ahead D U s1 := fun _ => rfl
    have e5 : ∀ l, left U { s1 with low := l } = left U s1 := fun _ => rfl
    have e6 : (enter (T d) { s with stk := s.stk ++ [d / 2] }).cnt = s.cnt + 1 := rfl
    have e7 : (enter (T d) { s with stk := s.stk ++ [d / 2] }).ins = s.ins := rfl
    rw [e4] at a2; rw [e5] at b2; rw [e7] at a; rw [e6] at b
    simp only [List.length_cons] at *
    constructor <;> omega
  | @take v via d ds s s1 s' pre S _ _ h3 h1 _ _ _ _ ih1 ih2 =>
    intro hd hc
    obtain ⟨a, b⟩ := ih1 (hU _) (by simp only [enter]; omega)
    have hcn := loop_cnt h1
    simp only [enter] at hcn
    obtain ⟨a2, b2⟩ := ih2 (fun x hx => hd x (List.mem_cons_of_mem _ hx)) (by show 0 ≤ s1.cnt; omega)
    have hw := hd d (by simp)
    have e1 := ahead_enter (D := D) (s := { s with stk := s.stk ++ [d / 2] }) hw h3 hc
    have e2 := left_lt (U := U) (s := s) (s' := enter (T d) { s with stk := s.stk ++ [d / 2] }) (v := T d) (fun x hx => by
      rw [show (enter (T d) { s with stk := s.stk ++ [d / 2] }).met x = s.met x from upd_ne _ _ (fun e => hx (by rw [e]; exact h3))]; exact hx) hw h3 (by rw [show (enter (T d) { s with stk := s.stk ++ [d / 2] }).met (T d) = s.cnt + 1 from upd_same _ _ _]; omega)
    have e3 : ahead D U { s with stk := s.stk ++ [d / 2] } = ahead D U s := rfl
    have e4 : ∀ l p q r, ahead D U { s1 with low := l, stk := p, blk := q, ins := r } = ahead D U s1 := fun _ _ _ _ => rfl
    have e5 : ∀ l p q r, left U { s1 with low := l, stk := p, blk := q, ins := r } = left U s1 := fun _ _ _ _ => rfl
    have e6 : (enter (T d) { s with stk := s.stk ++ [d / 2] }).cnt = s.cnt + 1 := rfl
    have e7 : (enter (T d) { s with stk := s.stk ++ [d / 2] }).ins = s.ins := rfl
    rw [e4] at a2; rw [e5] at b2; rw [e7] at a; rw [e6] at b
    simp only [List.length_append, List.length_cons, List.length_nil] at *
    constructor <;> omega
  | @back v via d ds s s' _ _ _ _ _ ih =>
    intro hd hc
    obtain ⟨a, b⟩ := ih (fun x hx => hd x (List.mem_cons_of_mem _ hx)) hc
    have a : s'.ins.length + ahead D U s' ≤ s.ins.length + ds.length + ahead D U s := a
    have b : s'.cnt + (left U s' : Int) ≤ s.cnt + (left U s : Int) := b
    exact ⟨by simp only [List.length_cons] at *; omega, b⟩
  | skip _ _ _ _ _ ih =>
    intro hd hc
    obtain ⟨a, b⟩ := ih (fun x hx => hd x (List.mem_cons_of_mem _ hx)) hc
    exact ⟨by simp only [List.length_cons]; omega, b⟩
theorem roots_ins {U : List Int} (hU : ∀ v d, d ∈ D v → T d ∈ U) {vs : List Int} (h : Roots D T vs s s') : ∀ (hvs : ∀ v ∈ vs, v ∈ U), 0 ≤ s.cnt → s'.ins.length + ahead D U s' ≤ s.ins.length + ahead D U s ∧ s'.cnt + (left U s' : Int) ≤ s.cnt + (left U s : Int) := by
  induction h with
  | nil => intro _ _; exact ⟨Nat.le_refl _, Int.le_refl _⟩
  | met _ _ ih => intro hv hc; exact ih (fun x hx => hv x (List.mem_cons_of_mem _ hx)) hc
  | @go v vs s s1 s' h1 h2 _ ih =>
    intro hv hc
    have hcn := loop_cnt h2
    simp only [enter] at hcn
    obtain ⟨a, b⟩ := loop_ins hU h2 (hU v) (by simp only [enter]; omega)
    obtain ⟨a2, b2⟩ := ih (fun x hx => hv x (List.mem_cons_of_mem _ hx)) (by omega)
    have hw := hv v (by simp)
    have e1 := ahead_enter (D := D) (s := s) hw h1 hc
    have e2 := left_lt (U := U) (s := s) (s' := enter v s) (v := v) (fun x hx => by
      rw [show (enter v s).met x = s.met x from upd_ne _ _ (fun e => hx (by rw [e]; exact h1))]; exact hx) hw h1 (by rw [show (enter v s).met v = s.cnt + 1 from upd_same _ _ _]; omega)
    have e6 : (enter v s).cnt = s.cnt + 1 := rfl
    have e7 : (enter v s).ins = s.ins := rfl
    rw [e7] at a; rw [e6] at b
    constructor <;> omega
theorem roots_bd {vs : List Int} (h : Roots D T vs s s') (hb : Bd s') : Bd s := by
  induction h with
  | nil => exact hb
  | met _ _ ih => exact ih hb
  | go _ h2 _ ih =>
    obtain ⟨n, hn⟩ := loop_visit h2
    exact visit_bd n _ _ _ _ hn (ih hb)
end
end Go.Proofs.Ytahonnlgkmimlaa.Deep

namespace Go.Proofs
open Go.Shelf
def Try.keysA_ren : Go.Shelf.Ren := ⟨fun | 7 => 82 | 10 => 104 | n => n, fun | 23 => 104 | 26 => 3 | 3 => 27 | 28 => 111 | 0 => 0 | 27 => 110 | 33 => 126 | 4 => 4 | n => n, fun | n => n⟩
theorem Try.keysA : Go.Proofs.SlLaysZI.n7 Try.prog Try.keysA_ren := {
  mixed := by kernel_rfl
  f7 := ⟨Try.f82.name, by decide, Try.func82.trans (congrArg some (by kernel_rfl))⟩
  f10 := ⟨Try.f104.name, by decide, Try.func104.trans (congrArg some (by kernel_rfl))⟩
  t0 := Try.underlying0
  a0 := Try.isAgg0
  z0 := Try.sizeOf0
  v0 := Try.zeroValue0
  t4 := Try.underlying4
  a4 := Try.isAgg4
  z4 := Try.sizeOf4
  v4 := Try.zeroValue4
  t23 := Try.underlying104
  a23 := Try.isAgg104
  z23 := Try.sizeOf104
  v23 := Try.zeroValue104
  t26 := Try.underlying3
  a26 := Try.isAgg3
  z26 := Try.sizeOf3
  v26 := Try.zeroValue3
  t27 := Try.underlying110
  a27 := Try.isAgg110
  z27 := Try.sizeOf110
  v27 := Try.zeroValue110
  t28 := Try.underlying111
  a28 := Try.isAgg111
  z28 := Try.sizeOf111
  v28 := Try.zeroValue111
  t33 := Try.underlying126
  a33 := Try.isAgg126
  z33 := Try.sizeOf126
  v33 := Try.zeroValue126 }
def Try.sortedA_ren : Go.Shelf.Ren := ⟨fun | 6 => 81 | 8 => 103 | 9 => 74 | 11 => 130 | 13 => 99 | 12 => 98 | 23 => 125 | 24 => 126 | 14 => 117 | 15 => 118 | 16 => 119 | 17 => 120 | 18 => 121 | 19 => 122 | 20 => 100 | 21 => 123 | 22 => 124 | 25 => 138 | 26 => 139 | 27 => 140 | 28 => 141 | 29 => 142 | 30 => 127 | 31 => 147 | n => n, fun | 26 => 3 | 28 => 111 | 24 => 27 | 0 => 0 | 3 => 3 | 37 => 124 | 48 => 146 | 50 => 148 | 4 => 4 | 40 => 140 | 39 => 139 | 45 => 78 | 5 => 5 | 9 => 9 | 51 => 158 | 55 => 162 | 57 => 165 | 58 => 166 | 33 => 126 | n => n, fun | n => n⟩
theorem Try.sortedA : Go.Proofs.SlLaysZI.n6 Try.prog Try.sortedA_ren := {
  mixed := by kernel_rfl
  f6 := ⟨Try.f81.name, by decide, Try.func81.trans (congrArg some (by kernel_rfl))⟩
  f8 := ⟨Try.f103.name, by decide, Try.func103.trans (congrArg some (by kernel_rfl))⟩
  f11 := ⟨Try.f130.name, by decide, Try.func130.trans (congrArg some (by kernel_rfl))⟩
  t0 := Try.underlying0
  a0 := Try.isAgg0
  z0 := Try.sizeOf0
  v0 := Try.zeroValue0
  t24 := Try.underlying27
  a24 := Try.isAgg27
  z24 := Try.sizeOf27
  v24 := Try.zeroValue27
  t26 := Try.underlying3
  a26 := Try.isAgg3
  z26 := Try.sizeOf3
  v26 := Try.zeroValue3
  t28 := Try.underlying111
  a28 := Try.isAgg111
  z28 := Try.sizeOf111
  v28 := Try.zeroValue111
  i26 := by kernel_rfl }
end Go.Proofs

set_option linter.unusedSimpArgs false
set_option linter.unusedVariables false
namespace Go.Proofs.Ytahonnlgkmimlaa
open Go.RowKit Go.Sort Go.Lib Go.Proofs.Ytahonnlgkmimlaa.Deep

/-- What was written into the blocks' map, without the values. -/
abbrev insOf (ins : List (Int × Value × List Int)) : List (Int × List Int) := ins.map fun q => (q.1, q.2.2)

/-- A copy, as a row of the call's own. -/
theorem clone_row {o : Orig} {w : World} {S : Stab} {rs : List Res} (H : Fr o w S rs) {v : Value} {l : List Int} (hv : Rd (· < w.heap.size) w v l) (hl : l.length ≤ 1000000000) :
    Calls Try.prog 105 #[v] w fun e w' => ∃ u, e = .returned u ∧ Fr o w' S (.row 3 u l :: rs) ∧ Below w.heap.size w w' := by
  obtain ⟨p, c, rfl, h1, h2, h3⟩ := rd_slice hv
  have hput : ∀ (u : Value) (w' : World) (xs : List Value), w'.ownsRow w.heap.size 3 1 u l.length xs → xs = l.map (Value.int .i64) → Below w.heap.size w w' → Fr o w' S (.row 3 u l :: rs) := by
    intro u w' xs hrow hxs hb
    refine (H.on hb).put _ ⟨xs, ⟨hrow.1, ?_⟩, by rw [hxs]; exact ints_row l⟩ fun b hb' => ?_
    · rcases hrow.2 with h | ⟨g, cap, cur, e1, e2, rest⟩
      · exact .inl h
      · exact .inr ⟨g, cap, cur, e1, Nat.zero_le _, rest⟩
    · rcases hrow.2 with ⟨h, _⟩ | ⟨g, cap, cur, e1, e2, e3, _⟩
      · rw [h] at hb'; cases hb'
      · rw [e1] at hb'
        have e9 : g = b := Option.some.inj hb'
        have hlt : g < w'.heap.size := (Array.getElem?_eq_some_iff.1 e3).1
        rw [← e9]
        exact ⟨Nat.le_trans H.below.size e2, hlt, fun hs => by have := H.inb g hs; omega, fun r hr e => by have := (H.own r hr g e).2.1; omega⟩
  cases p with
  | none =>
    have : l = [] := by
      rcases h3 with h | ⟨g, off, cur, t, fz, h, _⟩
      · exact h
      · cases h
    subst this
    refine (Try.slices_Clone_int_nil 0 c w).mono fun e w' ⟨he, hw⟩ => ⟨_, he, ?_, ?_⟩
    · subst hw; exact H.newRow 3
    · subst hw; exact Below.refl _ _
  | some a =>
    by_cases hz : l = []
    · subst hz
      refine (Try.slices_Clone_int_zero a c w).mono fun e w' ⟨u, he, hrow, _, hb⟩ => ⟨u, he, hput u w' [] hrow rfl hb, hb⟩
    · rcases h3 with h | ⟨g, off, cur, t, fz, h, hg, hw, hc⟩
      · exact absurd h hz
      · cases h
        refine (Try.slices_Clone_int g off l.length c l w (Nat.le_refl _) (by omega) fun j hj => ?_).mono fun e w' ⟨u, he, hrow, _, hb⟩ => ⟨u, he, hput u w' _ hrow (by rw [List.take_length]) hb, hb⟩
        obtain ⟨cs, hr, hq⟩ := hc j hj
        have hr : cs = [.int .i64 l[j]] := hr
        have := hq 0 (show 0 < 1 by decide)
        rw [hr] at this
        rw [cell_of_row w g _ cur t fz hw]
        have e : off + j * Data.size Int + 0 = off + j := by show off + j * 1 + 0 = _; omega
        rw [e] at this
        rw [this]
        simp [List.getD_eq_getElem?_getD, List.getElem?_eq_getElem hj]

/-- The first place of a number in a list; -1: none. -/
def idxL (l : List Int) (x : Int) : Int := if x ∈ l then (l.idxOf x : Int) else -1
theorem idxL_at {pre S : List Int} {x : Int} (h : x ∉ pre) : idxL (pre ++ x :: S) x = (pre.length : Int) := by
  unfold idxL
  rw [if_pos (by simp), List.idxOf_append, if_neg h]
  simp
theorem idxL_F {l : List Int} {x : Int} (h : ∀ j : Nat, j < l.length → l.getD j 0 ≠ x) : idxL l x = -1 := by
  unfold idxL
  rw [if_neg]
  intro hx
  obtain ⟨j, hj, e⟩ := mem_getD.1 hx
  exact h j hj e
theorem idxL_T {l : List Int} {x : Int} {i : Int} (h0 : 0 ≤ i) (h1 : i < (l.length : Int)) (h : l.getD i.toNat 0 = x) (hb : ∀ j : Nat, (j : Int) < i → l.getD j 0 ≠ x) : idxL l x = i := by
  have hsplit : l = l.take i.toNat ++ x :: l.drop (i.toNat + 1) := by
    conv => lhs; rw [← List.take_append_drop i.toNat l]
    rw [drop_round h0 h1, h, show (i + 1).toNat = i.toNat + 1 by omega]
  have hn : x ∉ l.take i.toNat := by
    intro hx
    obtain ⟨j, hj, e⟩ := mem_getD.1 hx
    rw [List.length_take] at hj
    refine hb j (by omega) ?_
    rw [← e, List.getD_eq_getElem?_getD, List.getD_eq_getElem?_getD, List.getElem?_take, if_pos (by omega)]
  rw [hsplit, idxL_at hn, List.length_take]
  omega

/-- maps.Keys: the map is boxed; the function captures the box. -/
theorem keys_box {mb : Nat} (w : World) : Calls Try.prog 82 #[.map (some mb)] w fun e w' =>
    e = .returned (.func (.func 104) #[] #[.pointer (some ⟨w.heap.size, 0, none⟩)]) ∧ w' = w.alloc (.cells #[.map (some mb)] 104) :=
  (callsIn_wide (n := 5)).1 (AnyZI.keys_in Try.keysA Fence.wide 5 trivial rfl (some mb) w)

theorem Try.sortsA (m : Nat) : AnyZI.SortsIn Try.prog Try.sortedA_ren Fence.wide m :=
  ⟨fun blk off cap ss W hH hblk hsz => callsIn_wide.2 (Try.slices_Sort_int blk off cap ss W hH hblk hsz), fun p cap W => callsIn_wide.2 (Any.slices_Sort_int_none Try.lays189 p cap W)⟩

/-- slices.Sorted of a map's keys: a row of the call's own. -/
theorem sorted_row {o : Orig} {w : World} {S : Stab} {rs : List Res} (H : Fr o w S rs) (j k : Nat) {mb kb : Nat} {ins : List (Int × Value × List Int)} (hj : rs[j]? = some (mapR Try.prog 3 mb ins)) (hk : rs[k]? = some (.box kb 104 [.map (some mb)])) (hn : ins.length ≤ 1000000000) :
    Calls Try.prog 81 #[.func (.func 104) #[] #[.pointer (some ⟨kb, 0, none⟩)]] w fun e w' =>
      ∃ u, e = .returned u ∧ (∃ K : List Int, Asc K ∧ (∀ x, x ∈ K ↔ ∃ l, (x, l) ∈ ins) ∧ Fr o w' S (.row 3 u K :: rs)) ∧ Below w.heap.size w w' := by
  obtain ⟨⟨ob, hb, hI⟩, _⟩ := H.ok _ (List.mem_of_getElem? hj)
  have hown := mapI_owns hb hI
  have hlt := hown.lt
  have hbox : w.heap[kb]? = some (.cells #[.map (some mb)] 104 (0, 0)) := H.ok _ (List.mem_of_getElem? hk)
  have hkb : kb < w.heap.size := (Array.getElem?_eq_some_iff.1 hbox).1
  have hsz : Maps.size (mapD (ins.map fun q => (q.1, q.2.1))) ≤ 1000000000 := by
    have := hown.size_le
    rw [List.length_map] at this; omega
  have hcell : w.cell? ⟨kb, 0, none⟩ = some (.map (some mb)) := by rw [cell_of_row w kb 0 _ _ _ hbox]; rfl
  have hseq : SeqGives Fence.wide 2 Try.prog 104 #[.pointer (some ⟨kb, 0, none⟩)] encZ (fun ss => ss.Perm (intKeys (mapD (ins.map fun q => (q.1, q.2.1))))) (Maps.size (mapD (ins.map fun q => (q.1, q.2.1)))) w :=
    AnyZI.keys_gives (ρ := Try.keysA_ren) { Try.keysA with } Fence.wide 2 trivial rfl (by omega) kb mb _ _ w hkb hcell hown
  have cS := AnyZI.sorted_in Try.sortedA Fence.wide 5 trivial trivial trivial trivial rfl (by omega) (Try.sortsA _) (enters_of Try.func74 (by kernel_rfl) rfl) 104 #[.pointer (some ⟨kb, 0, none⟩)] trivial (enters_of Try.func104 (by kernel_rfl) rfl) _ (Maps.size (mapD (ins.map fun q : Int × Value × List Int => (q.1, q.2.1)))) (by simp only [maxLen]; omega) (by omega) w hseq
  have cS' := (callsIn_wide (n := 5)).1 cS
  refine cS'.mono fun e w' ⟨v, ss, he, hperm, hrow, _, hbw⟩ => ⟨v, he, ⟨ss.mergeSort fun x y => decide (x ≤ y), ?_, fun x => ?_, ?_⟩, hbw⟩
  · have hnd : ss.Nodup := by
      obtain ⟨es, hD, hpw, hkl⟩ := hown.entries (Maps.int_keyed Try.underlying3)
      obtain ⟨es', hD', hko⟩ := hown.keysOf
      rw [hD] at hD' hperm
      cases hD'
      refine hperm.nodup_iff.2 ?_
      show (es.map fun p => Go.intOf p.1).Nodup
      refine List.pairwise_map.2 (hpw.imp_of_mem fun {p q} hp' hq' hne e => hne ?_)
      obtain ⟨v1, hv1⟩ := hko p hp'
      obtain ⟨v2, hv2⟩ := hko q hq'
      obtain ⟨a, _, ha, _⟩ := Maps.keyOf_i64 Try.underlying3 hv1
      obtain ⟨b, _, hb, _⟩ := Maps.keyOf_i64 Try.underlying3 hv2
      rw [ha, hb] at e ⊢
      exact congrArg _ e
    exact sortL_asc hnd
  · have h1 : x ∈ (ss.mergeSort fun x y => decide (x ≤ y)) ↔ x ∈ ss := List.mem_mergeSort
    rw [h1, hperm.mem_iff]
    obtain ⟨es, hD, hko⟩ := hown.keysOf
    have hh := @mapD_has (ins.map fun q => (q.1, q.2.1)) x
    rw [hD] at hh ⊢
    have h2 : x ∈ intKeys (.map es) ↔ Maps.has (.map es) (.int .i64 x) = true := by
      rw [Maps.has_eq, List.any_eq_true]
      show x ∈ es.map (fun p => Go.intOf p.1) ↔ _
      rw [List.mem_map]
      constructor
      · rintro ⟨p, hp, rfl⟩
        obtain ⟨v1, hv1⟩ := hko p hp
        obtain ⟨a, _, ha, _⟩ := Maps.keyOf_i64 Try.underlying3 hv1
        exact ⟨p, hp, by rw [ha]; simp [Lit.sameKey, Go.intOf]⟩
      · rintro ⟨p, hp, hs⟩
        obtain ⟨v1, hv1⟩ := hko p hp
        obtain ⟨a, _, ha, _⟩ := Maps.keyOf_i64 Try.underlying3 hv1
        rw [ha] at hs
        exact ⟨p, hp, by rw [ha]; simpa [Lit.sameKey, Go.intOf] using hs⟩
    rw [h2, hh]
    constructor
    · rintro ⟨v, hv⟩
      obtain ⟨q, hq, e⟩ := List.mem_map.1 hv
      cases e
      exact ⟨q.2, hq⟩
    · rintro ⟨l, hl⟩
      exact ⟨l.1, List.mem_map.2 ⟨_, hl, rfl⟩⟩
  · refine (H.on hbw).put _ ⟨_, ⟨?_, ?_⟩, ints_row _⟩ fun b hb' => ?_
    · rw [List.length_map, List.length_mergeSort]; show _ = _ * 1; omega
    · have hlen : (ss.mergeSort fun x y => decide (x ≤ y)).length = ss.length := List.length_mergeSort _
      rw [hlen]
      rcases hrow.2 with h | ⟨g, cap, cur, e1, e2, rest⟩
      · exact .inl h
      · exact .inr ⟨g, cap, cur, e1, Nat.zero_le _, rest⟩
    · rcases hrow.2 with ⟨h, _⟩ | ⟨g, cap, cur, e1, e2, e3, _⟩
      · rw [h] at hb'; cases hb'
      · rw [e1] at hb'
        have e9 : g = b := Option.some.inj hb'
        have hlt : g < w'.heap.size := (Array.getElem?_eq_some_iff.1 e3).1
        rw [← e9]
        exact ⟨Nat.le_trans H.below.size e2, hlt, fun hs => by have := H.inb g hs; omega, fun r hr e => by have := (H.own r hr g e).2.1; omega⟩

/-- The finder's resources. -/
abbrev finR (n : Int) (ve vd : Value) (DL : List (List Int)) (fb mb lb pb : Nat) (s : St) (ev : Value) (ins : List (Int × Value × List Int)) (tl : List Res) : List Res :=
  .box fb 106 [.int .i64 n, ve, vd, .slice (some ⟨mb, 0, none⟩) n.toNat n.toNat, .slice (some ⟨lb, 0, none⟩) n.toNat n.toNat, .int .i64 s.cnt, ev, .map (some pb)] ::
  .box mb 3 (arrV n fun j => .int .i64 (s.met j)) :: .box lb 3 (arrV n fun j => .int .i64 (s.low j)) :: .row 3 ev s.stk :: mapR Try.prog 3 pb ins :: .ro vd DL :: tl

/-- What a call that goes on with the finder leaves. -/
abbrev FinQ (n : Int) (ve vd : Value) (DL : List (List Int)) (fb mb lb pb : Nat) (s' : St) (tl : List Res) (o : Orig) (w : World) : Ending → World → Prop := fun e w' =>
  e = .returned (.tuple #[]) ∧ ∃ S ev ins, Fr o w' S (finR n ve vd DL fb mb lb pb s' ev ins tl) ∧ insOf ins = s'.ins

theorem dart_ok {n : Int} {E : List (Int × Int)} {L : List Int} {v d : Int} (hr : rightE n E = 0) (hL : risesP L (E.length : Int)) (hd : d ∈ dartsL E L v) : 0 ≤ d ∧ d / 2 < (E.length : Int) ∧ 0 ≤ headE E d ∧ headE E d < n ∧ d / 2 ∈ L ∧ d ≤ 10000 := by
  obtain ⟨h1, _⟩ := mem_dartsL.1 hd
  have hb := (rises_iff.1 hL).2 _ h1
  obtain ⟨r1, r2, r3, r4⟩ := rightE_0 hr
  have ho := okEs_at r4 hb.1 hb.2
  unfold okE at ho
  refine ⟨by omega, hb.2, ?_, ?_, h1, by omega⟩ <;> unfold headE eA eB <;> split <;> omega
end Go.Proofs.Ytahonnlgkmimlaa

set_option linter.unusedSimpArgs false
set_option linter.unusedVariables false
namespace Go.Proofs.Ytahonnlgkmimlaa
open Go.RowKit

def updF {α : Type} (f : Int → α) (x : Int) (y : α) : Int → α := fun z => if z = x then y else f z
theorem updF_same {α : Type} (f : Int → α) (x : Int) (y : α) : updF f x y x = y := by simp [updF]
theorem updF_ne {α : Type} (f : Int → α) {x z : Int} (y : α) (h : z ≠ x) : updF f x y z = f z := by simp [updF, h]

theorem make_info {P : Program} {e : TypeId} {zv : Value} (h : (P.info? e).map (fun i => (i.zero.map (·.cells), i.size, decide (i.bytes ≤ 1000))) = some (some #[zv], 1, true)) :
    ∃ inf z, P.info? e = some inf ∧ inf.zero = some z ∧ z.cells = #[zv] ∧ inf.size = 1 ∧ inf.bytes ≤ 1000 := by
  obtain ⟨i, h1, h2⟩ := Option.map_eq_some_iff.1 h
  simp only [Prod.mk.injEq, decide_eq_true_eq] at h2
  obtain ⟨h3, h4, h5⟩ := h2
  obtain ⟨z, h6, h7⟩ := Option.map_eq_some_iff.1 h3
  exact ⟨i, z, h1, h6, h7, h4, h5⟩

abbrev rowR (vs : Int → Value) (ls : Int → List Int) (j : Int) : Res := .row 3 (vs j) (ls j)
def rowsT (n : Int) (vs : Int → Value) (ls : Int → List Int) : List Res := (List.range n.toNat).map fun j : Nat => rowR vs ls (j : Int)
theorem rowsT_len (n : Int) (vs : Int → Value) (ls : Int → List Int) : (rowsT n vs ls).length = n.toNat := by simp [rowsT]
theorem rowsT_get {n a : Int} {vs : Int → Value} {ls : Int → List Int} (h0 : 0 ≤ a) (h1 : a < n) : (rowsT n vs ls)[a.toNat]? = some (rowR vs ls a) := by
  unfold rowsT
  rw [List.getElem?_map, List.getElem?_range (by omega)]
  simp only [Option.map_some]
  congr 2
  omega

theorem erase_split {α : Type _} {l : List α} {i : Nat} {x : α} (h : l[i]? = some x) : l = l.take i ++ x :: l.drop (i + 1) ∧ l.eraseIdx i = l.take i ++ l.drop (i + 1) := by
  obtain ⟨h1, h2⟩ := List.getElem?_eq_some_iff.1 h
  refine ⟨?_, List.eraseIdx_eq_take_drop_succ l i⟩
  conv => lhs; rw [← List.take_append_drop i l]
  rw [List.drop_eq_getElem_cons h1, h2]

section
variable {o : Orig} {w : World} {S : Stab} {n a : Int} {vs : Int → Value} {ls : Int → List Int}
theorem rows_new (rs : List Res) (H : Fr o w S rs) (n : Int) : Fr o w S (rs ++ rowsT n (fun _ => .slice none 0 0) (fun _ => [])) := by
  have key : ∀ k : Nat, Fr o w S (rs ++ List.replicate k (.row 3 (.slice none 0 0) ([] : List Int))) := by
    intro k
    induction k with
    | zero => simpa using H
    | succ k ih =>
      have h := ih.newRow (α := Int) 3
      rw [List.replicate_succ]
      exact h.perm List.perm_middle.symm
  have e : rowsT n (fun _ => .slice none 0 0) (fun _ => []) = List.replicate n.toNat (.row 3 (.slice none 0 0) ([] : List Int)) := by
    unfold rowsT
    apply List.ext_getElem
    · simp
    · intro i h1 h2; simp
  rw [e]; exact key _
theorem rows_out (rs : List Res) (H : Fr o w S (rs ++ rowsT n vs ls)) (h0 : 0 ≤ a) (h1 : a < n) : Fr o w S (.row 3 (vs a) (ls a) :: (rs ++ (rowsT n vs ls).eraseIdx a.toNat)) := by
  obtain ⟨e1, e2⟩ := erase_split (rowsT_get (vs := vs) (ls := ls) h0 h1)
  refine H.perm ?_
  rw [e2]
  conv => lhs; rw [e1]
  rw [← List.append_assoc, ← List.append_assoc]
  exact List.perm_middle
theorem rows_in (rs : List Res) {v : Value} {l : List Int} (H : Fr o w S (.row 3 v l :: (rs ++ (rowsT n vs ls).eraseIdx a.toNat))) (h0 : 0 ≤ a) (h1 : a < n) : Fr o w S (rs ++ rowsT n (updF vs a v) (updF ls a l)) := by
  obtain ⟨e1, e2⟩ := erase_split (rowsT_get (vs := updF vs a v) (ls := updF ls a l) h0 h1)
  have e3 : (rowsT n (updF vs a v) (updF ls a l)).eraseIdx a.toNat = (rowsT n vs ls).eraseIdx a.toNat := by
    apply List.ext_getElem?
    intro q
    rw [List.getElem?_eraseIdx, List.getElem?_eraseIdx]
    have key : ∀ q : Nat, q ≠ a.toNat → (rowsT n (updF vs a v) (updF ls a l))[q]? = (rowsT n vs ls)[q]? := by
      intro q hq
      unfold rowsT
      rw [List.getElem?_map, List.getElem?_map]
      by_cases hn : q < n.toNat
      · rw [List.getElem?_range hn]
        simp only [Option.map_some, rowR]
        rw [updF_ne _ _ (by omega), updF_ne _ _ (by omega)]
      · rw [List.getElem?_eq_none (by simp; omega)]; rfl
    split
    · exact key q (by omega)
    · exact key (q + 1) (by omega)
  refine H.perm ?_
  rw [← e3, e2]
  conv => rhs; rw [e1]
  rw [← List.append_assoc, ← List.append_assoc]
  have e4 : rowR (updF vs a v) (updF ls a l) a = .row 3 v l := by simp only [rowR]; rw [updF_same, updF_same]
  rw [e4]
  exact List.perm_middle.symm

theorem Fr.sub {rs rs' : List Res} (h : Fr o w S rs) (hs : rs'.Sublist rs) : Fr o w S rs' where
  below := h.below
  src := h.src
  inb := h.inb
  ok r hr := h.ok r (hs.subset hr)
  own r hr := h.own r (hs.subset hr)
  nodup := List.Nodup.sublist (hs.filterMap _) h.nodup

/-- The rows, and the array of them, are written no more. -/
theorem rows_freeze (rs : List Res) (H : Fr o w S (rs ++ rowsT n vs ls)) (j : Nat) {db : Nat} (hj : rs[j]? = some (.box db 27 (arrV n vs))) (hn : n ≤ 1000000) :
    ∃ S', Fr o w S' (rs.set j (.ro (.slice (some ⟨db, 0, none⟩) n.toNat n.toNat) ((List.range n.toNat).map fun q : Nat => ls (q : Int)))) := by
  have key : ∀ k : Nat, k ≤ n.toNat → ∃ S', Fr o w S' (rs ++ ((List.range k).map (fun q : Nat => Res.ro (vs (q : Int)) (ls (q : Int))) ++ (rowsT n vs ls).drop k)) := by
    intro k
    induction k with
    | zero => intro _; exact ⟨S, by simpa using H⟩
    | succ k ih =>
      intro hk
      obtain ⟨S', h⟩ := ih (by omega)
      have hget : (rowsT n vs ls)[k]? = some (rowR vs ls (k : Int)) := by
        have := rowsT_get (n := n) (vs := vs) (ls := ls) (a := (k : Int)) (by omega) (by omega)
        rwa [Int.toNat_natCast] at this
      have hidx : (rs ++ ((List.range k).map (fun q : Nat => Res.ro (vs (q : Int)) (ls (q : Int))) ++ (rowsT n vs ls).drop k))[rs.length + k]? = some (.row 3 (vs (k : Int)) (ls (k : Int))) := by
        rw [List.getElem?_append_right (by omega), List.getElem?_append_right (by simp), List.getElem?_drop]
        simp only [List.length_map, List.length_range]
        rw [show k + (rs.length + k - rs.length - k) = k by omega]
        exact hget
      obtain ⟨S2, _, h2⟩ := h.freeze (rs.length + k) hidx
      refine ⟨S2, ?_⟩
      have hd : (rowsT n vs ls).drop k = rowR vs ls (k : Int) :: (rowsT n vs ls).drop (k + 1) := by
        obtain ⟨h5, h6⟩ := List.getElem?_eq_some_iff.1 hget
        rw [List.drop_eq_getElem_cons h5, h6]
      rw [hd] at h2
      rw [List.set_append_right _ _ (by omega), show rs.length + k - rs.length = k by omega, List.set_append_right _ _ (by simp)] at h2
      simp only [List.length_map, List.length_range, Nat.sub_self, List.set_cons_zero] at h2
      rw [List.range_succ, List.map_append, List.append_assoc]
      exact h2
  obtain ⟨S', h⟩ := key n.toNat (Nat.le_refl _)
  have hd : (rowsT n vs ls).drop n.toNat = [] := List.drop_of_length_le (by rw [rowsT_len]; exact Nat.le_refl _)
  rw [hd, List.append_nil] at h
  have hrd : RowRd (α := List Int) S' w (arrV n vs) ((List.range n.toNat).map fun q : Nat => ls (q : Int)) := by
    refine ⟨by rw [arr_len, List.length_map, List.length_range]; show _ = _ * 1; omega, fun i hi => ?_⟩
    have hi' : i < n.toNat := by simpa using hi
    have hro : Rd S' w (vs (i : Int)) (ls (i : Int)) := h.ok (.ro (vs (i : Int)) (ls (i : Int))) (List.mem_append_right _ (List.mem_map.2 ⟨i, List.mem_range.2 hi', rfl⟩))
    show Data.rd S' w (((arrV n vs).drop (i * 1)).take 1) _
    have hg := arr_get (n := n) (f := vs) (i := (i : Int)) (by omega) (by omega)
    rw [Int.toNat_natCast] at hg
    obtain ⟨h5, h6⟩ := List.getElem?_eq_some_iff.1 hg
    rw [Nat.mul_one, List.drop_eq_getElem_cons h5, List.take_succ_cons, List.take_zero, h6]
    simp only [List.getElem_map, List.getElem_range]
    exact ⟨_, rfl, rd_slice hro⟩
  have hjl : j < rs.length := (List.getElem?_eq_some_iff.1 hj).1
  obtain ⟨S2, _, h2⟩ := h.freezeBox j (α := List Int) (by rw [List.getElem?_append_left hjl]; exact hj) hrd (n := n.toNat) (by simp) (by omega)
  rw [List.set_append_left _ _ hjl] at h2
  exact ⟨S2, h2.sub (List.sublist_append_left _ _)⟩
end

theorem dartsL_app {E : List (Int × Int)} {L M : List Int} {x : Int} : dartsL E (L ++ M) x = dartsL E L x ++ dartsL E M x := by unfold dartsL; rw [List.flatMap_append]
theorem darts_next {E : List (Int × Int)} {L : List Int} {i n a b : Int} {ls : Int → List Int} (h0 : 0 ≤ i) (h1 : i < (L.length : Int)) (h : ∀ x, 0 ≤ x → x < n → ls x = dartsL E (L.take i.toNat) x)
    (ha : (E.getD (L.getD i.toNat 0).toNat (0, 0)).1 = a) (hb : (E.getD (L.getD i.toNat 0).toNat (0, 0)).2 = b) :
    ∀ x, 0 ≤ x → x < n → updF (updF ls a (ls a ++ [2 * (L.getD i.toNat 0)])) b (updF ls a (ls a ++ [2 * (L.getD i.toNat 0)]) b ++ [2 * (L.getD i.toNat 0) + 1]) x = dartsL E (L.take (i + 1).toNat) x := by
  intro x hx0 hx1
  have e1 : L.take (i + 1).toNat = L.take i.toNat ++ [L.getD i.toNat 0] := by
    rw [show (i + 1).toNat = i.toNat + 1 by omega, List.take_add_one, List.getElem?_eq_getElem (by omega)]
    rw [List.getD_eq_getElem?_getD, List.getElem?_eq_getElem (by omega)]
    rfl
  have e2 : dartsL E [L.getD i.toNat 0] x = (if a = x then [2 * (L.getD i.toNat 0)] else []) ++ (if b = x then [2 * (L.getD i.toNat 0) + 1] else []) := by
    show List.flatMap _ [_] = _
    rw [List.flatMap_cons, List.flatMap_nil, List.append_nil, dartsFrom_0, ha, hb]
  rw [e1, dartsL_app, e2, ← h x hx0 hx1]
  by_cases hbx : b = x
  · subst hbx
    rw [updF_same, if_pos rfl]
    by_cases hax : a = b
    · rw [if_pos hax, hax, updF_same]; simp
    · rw [if_neg hax, updF_ne _ _ (fun e => hax e.symm)]; simp
  · rw [updF_ne _ _ (fun e => hbx e.symm), if_neg hbx]
    by_cases hax : a = x
    · rw [if_pos hax, hax, updF_same]; simp
    · rw [if_neg hax, updF_ne _ _ (fun e => hax e.symm)]; simp
theorem darts_len {i a b : Int} {ls : Int → List Int} {d d' : Int} (h : ∀ x, ((ls x).length : Int) ≤ 2 * i) : ∀ x, (((updF (updF ls a (ls a ++ [d])) b (updF ls a (ls a ++ [d]) b ++ [d'])) x).length : Int) ≤ 2 * (i + 1) := by
  have h1 : ∀ x, ((updF ls a (ls a ++ [d]) x).length : Int) ≤ 2 * i + 1 := by
    intro x
    unfold updF
    split
    · have := h a; simp only [List.length_append, List.length_cons, List.length_nil]; omega
    · have := h x; omega
  intro x
  by_cases e : x = b
  · rw [e, updF_same]; have := h1 b; simp only [List.length_append, List.length_cons, List.length_nil]; omega
  · rw [updF_ne _ _ e]; have := h1 x; omega
theorem roots_nil {D : Int → List Int} {T : Int → Int} {s s' : Deep.St} (h : Deep.Roots D T [] s s') : s = s' := by cases h; rfl
theorem roots_met {D : Int → List Int} {T : Int → Int} {v : Int} {vs : List Int} {s s' : Deep.St} (h : Deep.Roots D T (v :: vs) s s') (h1 : s.met v ≠ 0) : Deep.Roots D T vs s s' := by
  cases h <;> first | assumption | contradiction
theorem roots_go {D : Int → List Int} {T : Int → Int} {v : Int} {vs : List Int} {s s' : Deep.St} (h : Deep.Roots D T (v :: vs) s s') (h1 : s.met v = 0) : ∃ s1 k, Deep.Visit D T k v (-1) s s1 ∧ Deep.Roots D T vs s1 s' := by
  cases h with
  | go _ h2 h3 => obtain ⟨k, hk⟩ := Deep.loop_visit h2; exact ⟨_, k, hk, h3⟩
  | met _ _ => contradiction
/-- The same resources in another order. -/
theorem Fr.order {o : Orig} {w : World} {S : Stab} (l tl : List Res) (H : Fr o w S (l ++ tl)) (is : List Nat) (h : is.Perm (List.range l.length)) : Fr o w S (is.filterMap (fun i => l[i]?) ++ tl) := by
  refine H.perm (List.Perm.append_right tl ?_)
  have h1 := h.filterMap (fun i => l[i]?)
  have h2 : ∀ l : List Res, (List.range l.length).filterMap (fun i => l[i]?) = l := by
    intro l
    induction l with
    | nil => rfl
    | cons x l ih =>
      rw [List.length_cons, List.range_succ_eq_map, List.filterMap_cons]
      simp only [List.getElem?_cons_zero, List.filterMap_map]
      congr 1
  rw [h2 l] at h1
  exact h1.symm
theorem range_getD {n : Int} {ls : Int → List Int} {x : Int} (h0 : 0 ≤ x) (h1 : x < n) : ((List.range n.toNat).map fun q : Nat => ls (q : Int)).getD x.toNat [] = ls x := by
  rw [List.getD_eq_getElem?_getD, List.getElem?_map, List.getElem?_range (by omega)]
  simp only [Option.map_some, Option.getD_some]
  congr 1; omega
end Go.Proofs.Ytahonnlgkmimlaa

namespace Go.Proofs.Ytahonnlgkmimlaa
open Go.RowKit
theorem Try.E27 : Elem Try.prog 27 3 (Data.size Int) 8 := elem_of (z := .int .i64 0) Try.underlying27 (by kernel_rfl) rfl (by decide)
end Go.Proofs.Ytahonnlgkmimlaa

set_option linter.unusedSimpArgs false
set_option linter.unusedVariables false
namespace Go.Proofs.Ytahonnlgkmimlaa
open Go.RowKit

set_option maxRecDepth 100000 in
set_option maxHeartbeats 1000000 in
theorem btarget_any (n : Int) (ve : Value) (E : List (Int × Int)) (d : Int) (w : World) (hn : -9223372036854775808 ≤ n ∧ n ≤ 9223372036854775807) (hE : Rd (· < w.heap.size) w ve E) (h0 : 0 ≤ d) (h1 : d / 2 < (E.length : Int)) (h2 : d ≤ 1000000000000) :
  Calls Try.prog 128 [.agg #[.int .i64 n, ve], .int .i64 d].toArray w (Ans (.int .i64 (headE E d)) w) := by
  refine enter Try.f128 22 Try.func128 fun a hA => ?_
  replace hA := env_sub [(0, .agg #[.int .i64 n, ve]), (1, .int .i64 d)] hA
  have H := Fr.start (org w)
  refine go_seq fun K1 hK1 => ?_
  refine region_list ?_
  refine list_at 0 ?_; refine q_box 0 2 24 (.tmp 0) (.agg #[.int .i64 n, ve]) [.int .i64 n, ve] [(1, .int .i64 d)] hA H fun b2 a w3 H hA hG hge_b2 => ?_
  clear hge_b2
  refine q_list 1 1 [] [(1, .int .i64 d), (2, .pointer (some ⟨b2, 0, none⟩))] ((True) ∧ True) hA H ⟨trivial, trivial⟩ fun a w4 hA H hG => ?_
  refine list_end ?_
  refine hK1 _ _ ?_
  refine go_seq fun K5 hK5 => ?_
  refine go_seq fun K6 hK6 => ?_
  refine q_reg [] [(1, .int .i64 d), (2, .pointer (some ⟨b2, 0, none⟩)), (7, .bool (decide (d % 2 = 0)))] ((True) ∧ (0 ≤ d ∧ 0 < (2 : Int)) ∧ (True) ∧ True) hA H ⟨trivial, ⟨by omega, by omega⟩, trivial, trivial⟩ fun a w7 hA H hG => ?_
  refine hK6 _ _ ?_
  refine go_cond hA (.tmp 7) (decide (d % 2 = 0)) (fun hb8 => ?_) (fun hb8 => ?_)
  · have hhb8 := of_decide_eq_true hb8
    refine go_seq fun K9 hK9 => ?_
    refine q_reg [(9, ve), (14, .int .i64 ((E.getD (d / 2).toNat (0, 0)).2))] [(4, .int .i64 ((E.getD (d / 2).toNat (0, 0)).2))] ((0 < Try.prog.cellsOf 22) ∧ (CellOk (On w7) b2 (0 + 1) (ve)) ∧ (True) ∧ (0 ≤ d ∧ 0 < (2 : Int) ∧ InR .i64 d) ∧ ((Try.prog.info? 99).isSome = true ∧ IdxOk ve (d / 2)) ∧ (0 < Try.prog.cellsOf 3) ∧ (CellOk (On w7) (hdB ve) (hdO ve + (d / 2).toNat * 2 + 1) (.int .i64 ((E.getD (d / 2).toNat (0, 0)).2))) ∧ (True) ∧ True) hA H ⟨by decide +kernel, by exact box_cell H 0 rfl 1, trivial, ⟨by omega, by omega, by omega, by omega⟩, ⟨by kernel_rfl, by exact idx_ok (H.arg hE) (by omega) (by omega)⟩, by decide +kernel, by exact cell_flat (i := d / 2) (H.arg hE) (by omega) (by omega) (0, 0) 1, trivial, trivial⟩ fun a w10 hA H hG => ?_
    refine hK9 _ _ ?_
    refine go_ret_ ?_
    refine ret_one 4 (.int .i64 ((E.getD (d / 2).toNat (0, 0)).2)) hA ?_
    exact ans_i' (by unfold headE eA eB; first | rw [if_pos (by omega)] | rw [if_neg (by omega)]) H.below
  · have hhb8 := of_decide_eq_false hb8
    refine go_skip ?_
    refine hK5 _ _ ?_
    refine go_seq fun K11 hK11 => ?_
    refine q_reg [(16, ve), (21, .int .i64 ((E.getD (d / 2).toNat (0, 0)).1))] [(4, .int .i64 ((E.getD (d / 2).toNat (0, 0)).1))] ((0 < Try.prog.cellsOf 22) ∧ (CellOk (On w7) b2 (0 + 1) (ve)) ∧ (True) ∧ (0 ≤ d ∧ 0 < (2 : Int) ∧ InR .i64 d) ∧ ((Try.prog.info? 99).isSome = true ∧ IdxOk ve (d / 2)) ∧ (0 < Try.prog.cellsOf 3) ∧ (CellOk (On w7) (hdB ve) (hdO ve + (d / 2).toNat * 2 + 0) (.int .i64 ((E.getD (d / 2).toNat (0, 0)).1))) ∧ (True) ∧ True) hA H ⟨by decide +kernel, by exact box_cell H 0 rfl 1, trivial, ⟨by omega, by omega, by omega, by omega⟩, ⟨by kernel_rfl, by exact idx_ok (H.arg hE) (by omega) (by omega)⟩, by decide +kernel, by exact cell_flat (i := d / 2) (H.arg hE) (by omega) (by omega) (0, 0) 0, trivial, trivial⟩ fun a w12 hA H hG => ?_
    refine hK11 _ _ ?_
    refine go_ret_ ?_
    refine ret_one 4 (.int .i64 ((E.getD (d / 2).toNat (0, 0)).1)) hA ?_
    exact ans_i' (by unfold headE eA eB; first | rw [if_pos (by omega)] | rw [if_neg (by omega)]) H.below

set_option maxRecDepth 100000 in
set_option maxHeartbeats 1000000 in
theorem index_any (v : Value) (l : List Int) (x : Int) (w : World) (hl : Rd (· < w.heap.size) w v l) :
  Calls Try.prog 143 [v, .int .i64 x].toArray w (Ans (.int .i64 (idxL l x)) w) := by
  have hlen := rd_len hl
  refine enter Try.f143 19 Try.func143 fun a hA => ?_
  replace hA := env_sub [(0, v), (1, .int .i64 x)] hA
  have H := Fr.start (org w)
  refine go_seq fun K1 hK1 => ?_
  refine q_reg [] [(0, v), (1, .int .i64 x)] ((True) ∧ True) hA H ⟨trivial, trivial⟩ fun a w2 hA H hG => ?_
  refine hK1 _ _ ?_
  refine go_seq fun K3 hK3 => ?_
  refine go_seq fun K4 hK4 => ?_
  refine q_reg [(7, .int .i64 (l.length : Int))] [(0, v), (1, .int .i64 x), (7, .int .i64 (l.length : Int)), (8, .int .i64 0)] ((True) ∧ (LenOk v (l.length : Int)) ∧ (True) ∧ True) hA H ⟨trivial, by exact len_ok (H.arg hl), trivial, trivial⟩ fun a w5 hA H hG => ?_
  refine hK4 _ _ ?_
  refine go_block 0 ?_
  refine go_loop_ (Int) (fun x_ a W => (fun (i : Int) => EnvOk 19 a (keepEnv [(0, v), (1, .int .i64 x), (7, .int .i64 (l.length : Int)), (8, .int .i64 i)]) ∧ (∃ S, Fr (org w) W S []) ∧ 0 ≤ i ∧ ∀ j : Nat, (j : Int) < i → l.getD j 0 ≠ x) x_) (fun x_ => (fun (i : Int) => ((l.length : Int) - i).toNat) x_) (0) ?_ (fun i a w7 hI => ?_)
  · (try dsimp only); exact ⟨env_sub _ hA, ⟨_, H⟩, by omega, fun j hj => by omega⟩
  obtain ⟨hA, ⟨S, H⟩, h0, hok⟩ := hI
  try dsimp only at h0 hok
  refine go_seq fun K8 hK8 => ?_
  refine q_reg [] [(0, v), (1, .int .i64 x), (7, .int .i64 (l.length : Int)), (8, .int .i64 i), (9, .bool (decide (i < (l.length : Int))))] ((True) ∧ True) hA H ⟨trivial, trivial⟩ fun a w9 hA H hG => ?_
  refine hK8 _ _ ?_
  refine go_seq fun K10 hK10 => ?_
  refine go_cond hA (.tmp 9) (decide (i < (l.length : Int))) (fun hb11 => ?_) (fun hb11 => ?_)
  · have hhb11 := of_decide_eq_true hb11
    refine go_skip ?_
    refine hK10 _ _ ?_
    refine go_seq fun K12 hK12 => ?_
    refine go_block 1 ?_
    refine go_seq fun K13 hK13 => ?_
    refine q_reg [] [(0, v), (1, .int .i64 x), (5, .int .i64 i), (7, .int .i64 (l.length : Int)), (8, .int .i64 i)] ((True) ∧ (True) ∧ True) hA H ⟨trivial, trivial, trivial⟩ fun a w14 hA H hG => ?_
    refine hK13 _ _ ?_
    refine go_seq fun K15 hK15 => ?_
    refine q_reg [(15, .int .i64 (l.getD i.toNat 0))] [(0, v), (1, .int .i64 x), (5, .int .i64 i), (7, .int .i64 (l.length : Int)), (8, .int .i64 i), (16, .bool (decide (x = (l.getD i.toNat 0))))] ((True) ∧ (True) ∧ (True) ∧ ((Try.prog.info? 3).isSome = true ∧ IdxOk v i) ∧ (CellOk (On w14) (hdB v) (hdO v + i.toNat * 1) (.int .i64 (l.getD i.toNat 0))) ∧ (True) ∧ True) hA H ⟨trivial, trivial, trivial, ⟨by kernel_rfl, by exact idx_ok (H.arg hl) (by omega) (by omega)⟩, by exact cell_flat (i := i) (H.arg hl) (by omega) (by omega) 0 0, trivial, trivial⟩ fun a w16 hA H hG => ?_
    refine hK15 _ _ ?_
    refine go_cond hA (.tmp 16) (decide (x = (l.getD i.toNat 0))) (fun hb17 => ?_) (fun hb17 => ?_)
    · have hhb17 := of_decide_eq_true hb17
      refine go_seq fun K18 hK18 => ?_
      refine q_reg [] [(4, .int .i64 i)] ((True) ∧ (True) ∧ True) hA H ⟨trivial, trivial, trivial⟩ fun a w19 hA H hG => ?_
      refine hK18 _ _ ?_
      refine go_ret_ ?_
      refine ret_one 4 (.int .i64 i) hA ?_
      exact ans_i' ((idxL_T h0 (by omega) hhb17.symm hok).symm) H.below
    · have hhb17 := of_decide_eq_false hb17
      refine go_skip ?_
      refine hK12 _ _ ?_
      refine q_reg [] [(0, v), (1, .int .i64 x), (7, .int .i64 (l.length : Int)), (8, .int .i64 (i + 1))] ((InR .i64 (i + 1)) ∧ (True) ∧ True) hA H ⟨⟨by omega, by omega⟩, trivial, trivial⟩ fun a w20 hA H hG => ?_
      refine ⟨(i + 1), ⟨env_sub _ hA, ⟨_, H⟩, ?_⟩, ?_⟩
      · (try dsimp only); exact ⟨by omega, fun j hj => if e : (j : Int) = i then (by rw [show j = i.toNat by omega]; exact fun q => hhb17 q.symm) else hok j (by omega)⟩
      · (try dsimp only); omega
  · have hhb11 := of_decide_eq_false hb11
    refine go_exit 0 ?_
    refine hK3 _ _ ?_
    refine go_seq fun K21 hK21 => ?_
    refine q_reg [] [(4, .int .i64 (-1))] ((True) ∧ True) hA H ⟨trivial, trivial⟩ fun a w22 hA H hG => ?_
    refine hK21 _ _ ?_
    refine go_ret_ ?_
    refine ret_one 4 (.int .i64 (-1)) hA ?_
    exact ans_i' ((idxL_F (fun j hj => hok j (by omega))).symm) H.below

end Go.Proofs.Ytahonnlgkmimlaa

set_option linter.unusedSimpArgs false
set_option linter.unusedVariables false
namespace Go.Proofs.Ytahonnlgkmimlaa
open Go.RowKit

set_option maxRecDepth 100000 in
set_option maxHeartbeats 1000000 in
theorem take_any (n : Int) (ve : Value) (E : List (Int × Int)) (L : List Int) (vd : Value) (DL : List (List Int)) (fb mb lb pb : Nat) (o : Orig) (S : Stab) (s : Deep.St) (ev : Value) (ins : List (Int × Value × List Int)) (tl : List Res) (pre S0 : List Int) (e : Int) (w : World) (hE : Rd (· < o.w.heap.size) o.w ve E) (hH : Fr o w S (finR n ve vd DL fb mb lb pb s ev ins tl)) (hs : s.stk = pre ++ e :: S0) (hp : e ∉ pre) (hb : Deep.Bd s) (hi : insOf ins = s.ins) :
  Calls Try.prog 129 [.pointer (some ⟨fb, 0, none⟩), .int .i64 e].toArray w (FinQ n ve vd DL fb mb lb pb ({ s with stk := pre, blk := s.blk ++ [e :: S0], ins := s.ins ++ [Deep.key (e :: S0)] }) tl o w) := by
  have hil : ins.length ≤ 1000000000 := by have := hb.ins; rw [← hi, List.length_map] at this; exact this
  have hsl0 : s.stk.length ≤ 1000000000 := by have := hb.len; rw [List.length_append] at this; omega
  have hx : idxL s.stk e = (pre.length : Int) := by rw [hs]; exact idxL_at hp
  have hlen9 : S0.length + 1 ≤ 1000000000 := by rw [hs, List.length_append, List.length_cons] at hsl0; omega
  refine enter Try.f129 38 Try.func129 fun a hA => ?_
  replace hA := env_sub [(0, .pointer (some ⟨fb, 0, none⟩)), (1, .int .i64 e)] hA
  have H := hH
  refine go_seq fun K1 hK1 => ?_
  refine q_reg [(9, ev), (11, .int .i64 (idxL s.stk e))] [(0, .pointer (some ⟨fb, 0, none⟩)), (4, .int .i64 (idxL s.stk e))] ((True) ∧ (True) ∧ (0 < Try.prog.cellsOf 27) ∧ (CellOk (On w) fb (0 + 6) (ev)) ∧ (True) ∧ (Callable Try.prog 143 ∧ CallOk Try.prog (On w) 143 [ev, .int .i64 e].toArray (.int .i64 (idxL s.stk e))) ∧ (True) ∧ True) hA H ⟨trivial, trivial, by decide +kernel, by exact box_cell H 0 rfl 6, trivial, ⟨callable_of, callOk_of fun w hw => by exact index_any ev s.stk e w (((H.on hw).out 3 rfl))⟩, trivial, trivial⟩ fun a w2 hA H hG => ?_
  refine hK1 _ _ ?_
  refine go_seq fun K3 hK3 => ?_
  refine region_list ?_
  obtain ⟨u, _, hu2, hu3⟩ := reslice (P := Try.prog) (H.out 3 rfl) pre.length s.stk.length (by rw [hs, List.length_append]; omega) (Nat.le_refl _) 27 Try.underlying27 (by kernel_rfl) (by kernel_rfl)
  have hu4 : Rd (· < w2.heap.size) w2 u (e :: S0) := by rw [List.take_of_length_le (by rw [List.length_drop]; exact Nat.le_refl _), hs, List.drop_left] at hu3; exact hu3
  refine q_list 0 6 [(15, ev), (17, u)] [(0, .pointer (some ⟨fb, 0, none⟩)), (4, .int .i64 (idxL s.stk e)), (17, u)] ((True) ∧ (True) ∧ (0 < Try.prog.cellsOf 27) ∧ (CellOk (On w2) fb (0 + 6) (ev)) ∧ (True) ∧ (∀ w, (Instr.sliceAt 27 ev (some (.int .i64 (idxL s.stk e))) none none).run Try.prog w = .ok u w) ∧ True) hA H ⟨trivial, trivial, by decide +kernel, by exact box_cell H 0 rfl 6, trivial, fun w => by rw [hx]; exact hu2 rfl .i64 w, trivial⟩ fun a w4 hA H hG => ?_
  replace hu4 := rd_on hu4 hG
  refine list_at 6 ?_; refine q_any 6 18 105 #[.tmp 17] #[27] [u] _ [(0, .pointer (some ⟨fb, 0, none⟩)), (4, .int .i64 (idxL s.stk e))] hA (clone_row H hu4 (by (try simp only [List.length_cons]); omega)) fun v5 a w6 hR7 hA => ?_
  obtain ⟨H, hG⟩ := hR7
  refine q_list 7 1 [] [(0, .pointer (some ⟨fb, 0, none⟩)), (4, .int .i64 (idxL s.stk e)), (5, v5)] ((True) ∧ True) hA H ⟨trivial, trivial⟩ fun a w9 hA H hG => ?_
  refine list_end ?_
  refine hK3 _ _ ?_
  refine go_seq fun K10 hK10 => ?_
  refine region_list ?_
  obtain ⟨u2, hq1, hq2, hq3⟩ := H.cut (P := Try.prog) 4 rfl pre.length (by rw [hs, List.length_append]; omega) (by rw [hs, List.length_append, List.length_cons]; omega) (t := 27) Try.underlying27 (by kernel_rfl)
  rw [show s.stk.take pre.length = pre by rw [hs]; exact List.take_left] at hq3; replace H := hq3
  replace H : Fr _ _ _ (.row 3 v5 (e :: S0) :: .box fb 106 [.int .i64 n, ve, vd, (.slice (some ⟨mb, 0, none⟩) n.toNat n.toNat), (.slice (some ⟨lb, 0, none⟩) n.toNat n.toNat), .int .i64 s.cnt, ev, (.map (some pb))] :: .box mb 3 (arrV n fun j => .int .i64 (s.met j)) :: .box lb 3 (arrV n fun j => .int .i64 (s.low j)) :: .row 3 u2 pre :: mapR Try.prog 3 pb ins :: .ro vd DL :: tl) := H
  refine q_list 0 9 [(23, ev), (25, u2)] [(0, .pointer (some ⟨fb, 0, none⟩)), (5, v5), (25, u2), (27, .pointer (some ⟨fb, 0 + 6, none⟩))] ((True) ∧ (True) ∧ (True) ∧ (0 < Try.prog.cellsOf 27) ∧ (CellOk (On w9) fb (0 + 6) (ev)) ∧ (True) ∧ (∀ w, (Instr.sliceAt 27 ev none (some (.int .i64 (idxL s.stk e))) none).run Try.prog w = .ok u2 w) ∧ (True) ∧ (0 < Try.prog.cellsOf 27) ∧ True) hA H ⟨trivial, trivial, trivial, by decide +kernel, by exact box_cell H 1 rfl 6, trivial, fun w => by rw [hx]; exact hq1 .i64 w, trivial, by decide +kernel, trivial⟩ fun a w11 hA H hG => ?_
  refine list_at 9 ?_; refine q_store 9 27 (.tmp 27) (.tmp 25) 1 fb (0 + 6) 106 [.int .i64 n, ve, vd, (.slice (some ⟨mb, 0, none⟩) n.toNat n.toNat), (.slice (some ⟨lb, 0, none⟩) n.toNat n.toNat), .int .i64 s.cnt, ev, (.map (some pb))] [u2] [.int .i64 n, ve, vd, (.slice (some ⟨mb, 0, none⟩) n.toNat n.toNat), (.slice (some ⟨lb, 0, none⟩) n.toNat n.toNat), .int .i64 s.cnt, u2, (.map (some pb))] u2 [(0, .pointer (some ⟨fb, 0, none⟩)), (5, v5)] hA H rfl (one_cells (rd_one (H.out 4 rfl))) (Nat.le_of_ble_eq_true (by kernel_rfl)) rfl (fun v hv => by simp only [List.mem_cons, List.not_mem_nil, or_false] at hv; rcases hv with rfl; exact (rd_one (H.out 4 rfl))) fun a w12 H hA hG => ?_
  replace H : Fr _ _ _ (.row 3 v5 (e :: S0) :: .box fb 106 [.int .i64 n, ve, vd, (.slice (some ⟨mb, 0, none⟩) n.toNat n.toNat), (.slice (some ⟨lb, 0, none⟩) n.toNat n.toNat), .int .i64 s.cnt, u2, (.map (some pb))] :: .box mb 3 (arrV n fun j => .int .i64 (s.met j)) :: .box lb 3 (arrV n fun j => .int .i64 (s.low j)) :: .row 3 u2 pre :: mapR Try.prog 3 pb ins :: .ro vd DL :: tl) := H
  refine list_end ?_
  refine hK10 _ _ ?_
  refine go_seq fun K13 hK13 => ?_
  refine region_list ?_
  refine q_list 0 1 [] [(0, .pointer (some ⟨fb, 0, none⟩)), (5, v5), (28, v5)] ((True) ∧ True) hA H ⟨trivial, trivial⟩ fun a w14 hA H hG => ?_
  refine list_at 1 ?_; refine q_any 1 29 74 #[.tmp 28] #[27] [v5] _ [(0, .pointer (some ⟨fb, 0, none⟩)), (5, v5)] hA (by exact sort_row H 0 rfl (by first | omega | (simp only [List.length_mergeSort]; omega) | (simp only [List.length_cons]; omega))) fun v15 a w16 hR17 hA => ?_
  obtain ⟨H, hG⟩ := hR17
  replace H : Fr _ _ _ (.row 3 v5 (sortL (e :: S0)) :: .box fb 106 [.int .i64 n, ve, vd, (.slice (some ⟨mb, 0, none⟩) n.toNat n.toNat), (.slice (some ⟨lb, 0, none⟩) n.toNat n.toNat), .int .i64 s.cnt, u2, (.map (some pb))] :: .box mb 3 (arrV n fun j => .int .i64 (s.met j)) :: .box lb 3 (arrV n fun j => .int .i64 (s.low j)) :: .row 3 u2 pre :: mapR Try.prog 3 pb ins :: .ro vd DL :: tl) := H
  refine list_end ?_
  refine hK13 _ _ ?_
  obtain ⟨S, _, H⟩ := H.freeze 0 rfl
  replace H : Fr _ _ _ (.ro v5 (sortL (e :: S0)) :: .box fb 106 [.int .i64 n, ve, vd, (.slice (some ⟨mb, 0, none⟩) n.toNat n.toNat), (.slice (some ⟨lb, 0, none⟩) n.toNat n.toNat), .int .i64 s.cnt, u2, (.map (some pb))] :: .box mb 3 (arrV n fun j => .int .i64 (s.met j)) :: .box lb 3 (arrV n fun j => .int .i64 (s.low j)) :: .row 3 u2 pre :: mapR Try.prog 3 pb ins :: .ro vd DL :: tl) := H
  have hk8 : (sortL (e :: S0)).getD (0 : Int).toNat 0 ∈ sortL (e :: S0) := mem_getD.2 ⟨0, by rw [List.length_mergeSort]; simp, rfl⟩
  have hk9 := hb.mem _ (List.mem_append_right _ (by rw [hs]; exact List.mem_append_right _ (mem_sortL.1 hk8)))
  have hsl : (sortL (e :: S0)).length = S0.length + 1 := by rw [List.length_mergeSort]; rfl
  have H0 := H
  have hM0 := H0.keeps none (.inl rfl)
  refine region_mix (But w16 none) [0, 1, 2, 3, 4, 5, 6, 7] 9 ?_
  replace H := H.drawn; have hD := But.drew w16 none
  generalize ({ w16 with drawn := w16.drawn + 1 } : World) = w19 at H hD ⊢
  refine m_take (n := 1) [0, 1, 2, 3, 4, 5, 6, 7] #[true, true, true, true, true, true, true, true, false] [(33, (.map (some pb))), (36, .int .i64 ((sortL (e :: S0)).getD (0 : Int).toNat 0))] [(33, (.map (some pb))), (36, .int .i64 ((sortL (e :: S0)).getD (0 : Int).toNat 0)), (37, v5)] ((True) ∧ (True) ∧ (0 < Try.prog.cellsOf 104) ∧ (CellOk (But w16 none) fb (0 + 7) ((.map (some pb)))) ∧ (True) ∧ ((Try.prog.info? 3).isSome = true ∧ IdxOk v5 0) ∧ (CellOk (But w16 none) (hdB v5) (hdO v5 + (0 : Int).toNat * 1) (.int .i64 ((sortL (e :: S0)).getD (0 : Int).toNat 0))) ∧ (True) ∧ True) hA hD ⟨trivial, trivial, by decide +kernel, by exact box_cellC (box_atC H0 none 1 rfl (fun e => by cases e)) 7, trivial, ⟨by kernel_rfl, by exact idx_ok (H0.getT 0 rfl) (by omega) (by omega)⟩, by exact cell_flatC hM0 (i := (0 : Int)) (H0.getT 0 rfl) (by omega) (by omega) 0 0, trivial, trivial⟩ fun a hA => ?_
  refine m_one 8 ?_; refine q_mapUpdate 8 104 (.tmp 33) (.tmp 36) (.tmp 37) 5 pb ins ((sortL (e :: S0)).getD (0 : Int).toNat 0) v5 (sortL (e :: S0)) [] hA H rfl (H.getS 0 rfl) ⟨by omega, by omega⟩ (by (try simp only [List.length_append, List.length_cons, List.length_nil]); omega) Try.underlying104 Try.underlying3 fun a w20 H hA hG => ?_
  replace H : Fr _ _ _ (.ro v5 (sortL (e :: S0)) :: .box fb 106 [.int .i64 n, ve, vd, (.slice (some ⟨mb, 0, none⟩) n.toNat n.toNat), (.slice (some ⟨lb, 0, none⟩) n.toNat n.toNat), .int .i64 s.cnt, u2, (.map (some pb))] :: .box mb 3 (arrV n fun j => .int .i64 (s.met j)) :: .box lb 3 (arrV n fun j => .int .i64 (s.low j)) :: .row 3 u2 pre :: mapR Try.prog 3 (α := List (Int)) pb (ins ++ [(((sortL (e :: S0)).getD (0 : Int).toNat 0), v5, sortL (e :: S0))]) :: .ro vd DL :: tl) := H
  refine ⟨fun h => absurd h (by decide), ?_⟩
  refine m_end ?_
  refine ret_noneN (P := Try.prog) (fn := Try.f129) (R := (FinQ n ve vd DL fb mb lb pb ({ s with stk := pre, blk := s.blk ++ [e :: S0], ins := s.ins ++ [Deep.key (e :: S0)] }) tl o w)) hA ?_
  replace H := H.drop 0
  refine ⟨rfl, _, _, _, H, ?_⟩
  show List.map _ (_ ++ _) = _ ++ _; rw [List.map_append]; refine congr (congrArg _ hi) ?_
  show [(_, _)] = [Deep.key _]; unfold Deep.key; rw [head_getD]; rfl

end Go.Proofs.Ytahonnlgkmimlaa

set_option linter.unusedSimpArgs false
set_option linter.unusedVariables false
namespace Go.Proofs.Ytahonnlgkmimlaa
open Go.RowKit

set_option maxRecDepth 100000 in
set_option maxHeartbeats 4000000 in
theorem visit_step (n : Int) (ve : Value) (E : List (Int × Int)) (L : List Int) (vd : Value) (DL : List (List Int)) (fb mb lb pb : Nat) (h : Nat) (o : Orig) (S : Stab) (s : Deep.St) (ev : Value) (ins : List (Int × Value × List Int)) (tl : List Res) (s' : Deep.St) (v via : Int) (w : World) (hr : rightE n E = 0) (hL : risesP L (E.length : Int)) (hE : Rd (· < o.w.heap.size) o.w ve E) (hDL : ∀ x, 0 ≤ x → x < n → DL.getD x.toNat [] = dartsL E L x) (hDLn : (DL.length : Int) = n) (ih : ∀ (w : World) (S : Stab) (s s' : Deep.St) (v via : Int) (ev : Value) (ins : List (Int × Value × List Int)) (tl : List Res), Deep.Visit (dartsL E L) (headE E) h v via s s' → Deep.Bd s' → 0 ≤ s.cnt → 0 ≤ v → v < n → Fr o w S (finR n ve vd DL fb mb lb pb s ev ins tl) → insOf ins = s.ins → Calls Try.prog 102 [.pointer (some ⟨fb, 0, none⟩), .int .i64 v, .int .i64 via].toArray w (FinQ n ve vd DL fb mb lb pb s' tl o w)) (hv : Deep.Visit (dartsL E L) (headE E) (h + 1) v via s s') (hb : Deep.Bd s') (hc0 : 0 ≤ s.cnt) (hv0 : 0 ≤ v) (hv1 : v < n) (hH : Fr o w S (finR n ve vd DL fb mb lb pb s ev ins tl)) (hi : insOf ins = s.ins) :
  Calls Try.prog 102 [.pointer (some ⟨fb, 0, none⟩), .int .i64 v, .int .i64 via].toArray w (FinQ n ve vd DL fb mb lb pb s' tl o w) := by
  have hr9 := rightE_0 hr
  have hsb := (Deep.visit_bd (h + 1) _ _ _ _ hv hb).cnt
  refine enter Try.f102 182 Try.func102 fun a hA => ?_
  replace hA := env_sub [(0, .pointer (some ⟨fb, 0, none⟩)), (1, .int .i64 v), (2, .int .i64 via)] hA
  have H := hH
  refine go_seq fun K1 hK1 => ?_
  refine region_list ?_
  refine q_list 0 7 [(13, .int .i64 s.cnt)] [(0, .pointer (some ⟨fb, 0, none⟩)), (1, .int .i64 v), (2, .int .i64 via), (14, .int .i64 (s.cnt + 1)), (16, .pointer (some ⟨fb, 0 + 5, none⟩))] ((True) ∧ (True) ∧ (0 < Try.prog.cellsOf 3) ∧ (CellOk (On w) fb (0 + 5) (.int .i64 s.cnt)) ∧ (InR .i64 (s.cnt + 1)) ∧ (True) ∧ (0 < Try.prog.cellsOf 3) ∧ True) hA H ⟨trivial, trivial, by decide +kernel, by exact box_cell H 0 rfl 5, ⟨by omega, by omega⟩, trivial, by decide +kernel, trivial⟩ fun a w2 hA H hG => ?_
  refine list_at 7 ?_; refine q_store 7 3 (.tmp 16) (.tmp 14) 0 fb (0 + 5) 106 [.int .i64 n, ve, vd, (.slice (some ⟨mb, 0, none⟩) n.toNat n.toNat), (.slice (some ⟨lb, 0, none⟩) n.toNat n.toNat), .int .i64 s.cnt, ev, (.map (some pb))] [.int .i64 (s.cnt + 1)] [.int .i64 n, ve, vd, (.slice (some ⟨mb, 0, none⟩) n.toNat n.toNat), (.slice (some ⟨lb, 0, none⟩) n.toNat n.toNat), .int .i64 (s.cnt + 1), ev, (.map (some pb))] (.int .i64 (s.cnt + 1)) [(0, .pointer (some ⟨fb, 0, none⟩)), (1, .int .i64 v), (2, .int .i64 via)] hA H rfl rfl (Nat.le_of_ble_eq_true (by kernel_rfl)) rfl (fun v hv => by simp only [List.mem_cons, List.not_mem_nil, or_false] at hv; rcases hv with rfl; exact rfl) fun a w3 H hA hG => ?_
  replace H : Fr _ _ _ (.box fb 106 [.int .i64 n, ve, vd, (.slice (some ⟨mb, 0, none⟩) n.toNat n.toNat), (.slice (some ⟨lb, 0, none⟩) n.toNat n.toNat), .int .i64 (s.cnt + 1), ev, (.map (some pb))] :: .box mb 3 (arrV n fun j => .int .i64 (s.met j)) :: .box lb 3 (arrV n fun j => .int .i64 (s.low j)) :: .row 3 ev s.stk :: mapR Try.prog 3 pb ins :: .ro vd DL :: tl) := H
  refine list_end ?_
  refine hK1 _ _ ?_
  refine go_seq fun K4 hK4 => ?_
  have H0 := H
  have hM0 := H0.keeps (some mb) (.inr ⟨_, List.mem_of_getElem? (i := 1) rfl, rfl⟩)
  refine region_mix (But w3 (some mb)) [0, 1, 2, 3, 4, 5, 6, 7, 8, 9, 10, 11, 12, 13, 14, 15, 16, 17, 18, 19] 22 ?_
  replace H := H.drawn; have hD := But.drew w3 (some mb)
  generalize ({ w3 with drawn := w3.drawn + 1 } : World) = w5 at H hD ⊢
  refine m_take (n := 3) [0, 1, 2, 3, 4, 5, 6, 7, 8, 9, 10, 11, 12, 13, 14, 15, 16, 17, 18] #[true, true, true, true, true, true, true, true, true, true, true, true, true, true, true, true, true, true, true, false, false, false] [(20, (.slice (some ⟨mb, 0, none⟩) n.toNat n.toNat)), (25, (.slice (some ⟨lb, 0, none⟩) n.toNat n.toNat)), (30, .int .i64 (s.cnt + 1)), (34, .int .i64 (s.cnt + 1))] [(0, .pointer (some ⟨fb, 0, none⟩)), (1, .int .i64 v), (2, .int .i64 via), (25, (.slice (some ⟨lb, 0, none⟩) n.toNat n.toNat)), (26, .int .i64 v), (30, .int .i64 (s.cnt + 1)), (34, .int .i64 (s.cnt + 1)), (35, .pointer (some ⟨mb, 0 + v.toNat * 1, none⟩))] ((True) ∧ (True) ∧ (0 < Try.prog.cellsOf 27) ∧ (CellOk (But w3 (some mb)) fb (0 + 3) ((.slice (some ⟨mb, 0, none⟩) n.toNat n.toNat))) ∧ (True) ∧ (True) ∧ (True) ∧ (0 < Try.prog.cellsOf 27) ∧ (CellOk (But w3 (some mb)) fb (0 + 4) ((.slice (some ⟨lb, 0, none⟩) n.toNat n.toNat))) ∧ (True) ∧ (True) ∧ (True) ∧ (0 < Try.prog.cellsOf 3) ∧ (CellOk (But w3 (some mb)) fb (0 + 5) (.int .i64 (s.cnt + 1))) ∧ (True) ∧ (True) ∧ (0 < Try.prog.cellsOf 3) ∧ (CellOk (But w3 (some mb)) fb (0 + 5) (.int .i64 (s.cnt + 1))) ∧ ((Try.prog.info? 3).isSome = true ∧ IdxOk (.slice (some ⟨mb, 0, none⟩) n.toNat n.toNat) v) ∧ True) hA hD ⟨trivial, trivial, by decide +kernel, by exact box_cellC (box_atC H0 (some mb) 0 rfl (H0.apart 0 1 (by decide) rfl rfl rfl)) 3, trivial, trivial, trivial, by decide +kernel, by exact box_cellC (box_atC H0 (some mb) 0 rfl (H0.apart 0 1 (by decide) rfl rfl rfl)) 4, trivial, trivial, trivial, by decide +kernel, by exact box_cellC (box_atC H0 (some mb) 0 rfl (H0.apart 0 1 (by decide) rfl rfl rfl)) 5, trivial, trivial, by decide +kernel, by exact box_cellC (box_atC H0 (some mb) 0 rfl (H0.apart 0 1 (by decide) rfl rfl rfl)) 5, ⟨by kernel_rfl, arr_idx (by omega) (by omega)⟩, trivial⟩ fun a hA => ?_
  refine m_one 19 ?_; refine q_store 19 3 (.tmp 35) (.tmp 30) 1 mb (0 + v.toNat * 1) 3 ((arrV n fun j => .int .i64 (s.met j))) [.int .i64 (s.cnt + 1)] ((arrV n fun j => .int .i64 ((Deep.upd s.met v (s.cnt + 1)) j))) (.int .i64 (s.cnt + 1)) [(0, .pointer (some ⟨fb, 0, none⟩)), (1, .int .i64 v), (2, .int .i64 via), (25, (.slice (some ⟨lb, 0, none⟩) n.toNat n.toNat)), (26, .int .i64 v), (34, .int .i64 (s.cnt + 1))] hA H rfl rfl (arr_room (by omega) (by omega)) (arr_set (by omega) (by omega) (congrArg (Value.int .i64) (Deep.upd_same _ _ _)) (fun j hj => congrArg (Value.int .i64) (Deep.upd_ne _ _ hj))) (fun v hv => by simp only [List.mem_cons, List.not_mem_nil, or_false] at hv; rcases hv with rfl; exact rfl) fun a w6 H hA hG => ?_
  replace H : Fr _ _ _ (.box fb 106 [.int .i64 n, ve, vd, (.slice (some ⟨mb, 0, none⟩) n.toNat n.toNat), (.slice (some ⟨lb, 0, none⟩) n.toNat n.toNat), .int .i64 (s.cnt + 1), ev, (.map (some pb))] :: .box mb 3 (arrV n fun j => .int .i64 ((Deep.upd s.met v (s.cnt + 1)) j)) :: .box lb 3 (arrV n fun j => .int .i64 (s.low j)) :: .row 3 ev s.stk :: mapR Try.prog 3 pb ins :: .ro vd DL :: tl) := H
  replace hD := hD.grown hG (fun b hb => .inl hb.symm)
  refine ⟨fun _ => hD, ?_⟩
  refine m_one 20 ?_; refine q_one 20 [] [(0, .pointer (some ⟨fb, 0, none⟩)), (1, .int .i64 v), (2, .int .i64 via), (34, .int .i64 (s.cnt + 1)), (36, .pointer (some ⟨lb, 0 + v.toNat * 1, none⟩))] (((Try.prog.info? 3).isSome = true ∧ IdxOk (.slice (some ⟨lb, 0, none⟩) n.toNat n.toNat) v) ∧ True) hA H ⟨⟨by kernel_rfl, arr_idx (by omega) (by omega)⟩, trivial⟩ fun a w7 H hA hG => ?_
  refine ⟨fun h => absurd h (by decide), ?_⟩
  refine m_one 21 ?_; refine q_store 21 3 (.tmp 36) (.tmp 34) 2 lb (0 + v.toNat * 1) 3 ((arrV n fun j => .int .i64 (s.low j))) [.int .i64 (s.cnt + 1)] ((arrV n fun j => .int .i64 ((Deep.upd s.low v (s.cnt + 1)) j))) (.int .i64 (s.cnt + 1)) [(0, .pointer (some ⟨fb, 0, none⟩)), (1, .int .i64 v), (2, .int .i64 via)] hA H rfl rfl (arr_room (by omega) (by omega)) (arr_set (by omega) (by omega) (congrArg (Value.int .i64) (Deep.upd_same _ _ _)) (fun j hj => congrArg (Value.int .i64) (Deep.upd_ne _ _ hj))) (fun v hv => by simp only [List.mem_cons, List.not_mem_nil, or_false] at hv; rcases hv with rfl; exact rfl) fun a w8 H hA hG => ?_
  replace H : Fr _ _ _ (.box fb 106 [.int .i64 n, ve, vd, (.slice (some ⟨mb, 0, none⟩) n.toNat n.toNat), (.slice (some ⟨lb, 0, none⟩) n.toNat n.toNat), .int .i64 (s.cnt + 1), ev, (.map (some pb))] :: .box mb 3 (arrV n fun j => .int .i64 ((Deep.upd s.met v (s.cnt + 1)) j)) :: .box lb 3 (arrV n fun j => .int .i64 ((Deep.upd s.low v (s.cnt + 1)) j)) :: .row 3 ev s.stk :: mapR Try.prog 3 pb ins :: .ro vd DL :: tl) := H
  refine ⟨fun h => absurd h (by decide), ?_⟩
  refine m_end ?_
  refine hK4 _ _ ?_
  refine go_seq fun K9 hK9 => ?_
  obtain ⟨u, huc, hur⟩ := cell_sliceC (C := On w8) H.keepsS (H.getS 5 rfl) v
  have hu := hur hv0 (by omega)
  rw [hDL v hv0 hv1] at hu
  have hul := rd_len hu
  replace H := H.ro hu
  replace H : Fr _ _ _ (.box fb 106 [.int .i64 n, ve, vd, (.slice (some ⟨mb, 0, none⟩) n.toNat n.toNat), (.slice (some ⟨lb, 0, none⟩) n.toNat n.toNat), .int .i64 (s.cnt + 1), ev, (.map (some pb))] :: .box mb 3 (arrV n fun j => .int .i64 ((Deep.upd s.met v (s.cnt + 1)) j)) :: .box lb 3 (arrV n fun j => .int .i64 ((Deep.upd s.low v (s.cnt + 1)) j)) :: .row 3 ev s.stk :: mapR Try.prog 3 pb ins :: .ro vd DL :: .ro u (dartsL E L v) :: tl) := H.sink 1 6
  refine q_reg [(40, vd), (43, u), (44, .int .i64 ((dartsL E L v).length : Int))] [(0, .pointer (some ⟨fb, 0, none⟩)), (1, .int .i64 v), (2, .int .i64 via), (43, u), (44, .int .i64 ((dartsL E L v).length : Int)), (45, .int .i64 0)] ((True) ∧ (True) ∧ (0 < Try.prog.cellsOf 67) ∧ (CellOk (On w8) fb (0 + 2) (vd)) ∧ (True) ∧ ((Try.prog.info? 27).isSome = true ∧ IdxOk vd v) ∧ (CellOk (On w8) (hdB vd) (hdO vd + v.toNat * 1) u) ∧ (LenOk u ((dartsL E L v).length : Int)) ∧ (True) ∧ True) hA H ⟨trivial, trivial, by decide +kernel, by exact box_cell H 0 rfl 2, trivial, ⟨by kernel_rfl, by exact idx_ok (H.get 5 rfl) (by omega) (by omega)⟩, by exact huc hv0 (by omega), by exact len_ok (H.get 6 rfl), trivial, trivial⟩ fun a w10 hA H hG => ?_
  refine hK9 _ _ ?_
  refine go_block 0 ?_
  refine go_loop_ (Int × Deep.St × Value × List (Int × Value × List Int)) (fun x_ a W => (fun (i : Int) (t : Deep.St) (eu : Value) (iu : List (Int × Value × List Int)) => EnvOk 182 a (keepEnv [(0, .pointer (some ⟨fb, 0, none⟩)), (1, .int .i64 v), (2, .int .i64 via), (43, u), (44, .int .i64 ((dartsL E L v).length : Int)), (45, .int .i64 i)]) ∧ (∃ S, Fr o W S (.box fb 106 [.int .i64 n, ve, vd, (.slice (some ⟨mb, 0, none⟩) n.toNat n.toNat), (.slice (some ⟨lb, 0, none⟩) n.toNat n.toNat), .int .i64 t.cnt, eu, (.map (some pb))] :: .box mb 3 (arrV n fun j => .int .i64 (t.met j)) :: .box lb 3 (arrV n fun j => .int .i64 (t.low j)) :: .row 3 eu t.stk :: mapR Try.prog 3 pb iu :: .ro vd DL :: .ro u (dartsL E L v) :: tl)) ∧ 0 ≤ i ∧ 0 ≤ t.cnt ∧ Deep.Steps (Deep.Visit (dartsL E L) (headE E) h) (headE E) v via ((dartsL E L v).drop i.toNat) t s' ∧ insOf iu = t.ins) x_.1 x_.2.1 x_.2.2.1 x_.2.2.2) (fun x_ => (fun (i : Int) (t : Deep.St) (eu : Value) (iu : List (Int × Value × List Int)) => (((dartsL E L v).length : Int) - i).toNat) x_.1 x_.2.1 x_.2.2.1 x_.2.2.2) (0, Deep.enter v s, ev, ins) ?_ (fun x_ a w12 hI => ?_)
  · (try dsimp only); exact ⟨env_sub _ hA, ⟨_, H⟩, by omega, (by show 0 ≤ s.cnt + 1; omega), hv, hi⟩
  obtain ⟨i, t, eu, iu⟩ := x_
  obtain ⟨hA, ⟨S, H⟩, h0, hc, hst, hit⟩ := hI
  try dsimp only at h0 hc hst hit
  have hbt := Deep.steps_bd (Deep.visit_bd h) hst hb
  have hil : iu.length ≤ 1000000000 := by have := hbt.ins; rw [← hit, List.length_map] at this; exact this
  have hsl : t.stk.length ≤ 1000000000 := by have := hbt.len; rw [List.length_append] at this; omega
  refine go_seq fun K13 hK13 => ?_
  refine q_reg [] [(0, .pointer (some ⟨fb, 0, none⟩)), (1, .int .i64 v), (2, .int .i64 via), (43, u), (44, .int .i64 ((dartsL E L v).length : Int)), (45, .int .i64 i), (46, .bool (decide (i < ((dartsL E L v).length : Int))))] ((True) ∧ True) hA H ⟨trivial, trivial⟩ fun a w14 hA H hG => ?_
  refine hK13 _ _ ?_
  refine go_seq fun K15 hK15 => ?_
  refine go_cond hA (.tmp 46) (decide (i < ((dartsL E L v).length : Int))) (fun hb16 => ?_) (fun hb16 => ?_)
  · have hhb16 := of_decide_eq_true hb16
    refine go_skip ?_
    refine hK15 _ _ ?_
    refine go_seq fun K17 hK17 => ?_
    refine go_block 1 ?_
    refine go_seq fun K18 hK18 => ?_
    have hdm : ((dartsL E L v).getD i.toNat 0) ∈ dartsL E L v := mem_getD.2 ⟨i.toNat, by omega, rfl⟩
    obtain ⟨hd0, hd1, hd2, hd3, hd4, hd5⟩ := dart_ok hr hL hdm
    rw [drop_round h0 (by omega)] at hst
    refine q_reg [(48, .int .i64 ((dartsL E L v).getD i.toNat 0))] [(0, .pointer (some ⟨fb, 0, none⟩)), (1, .int .i64 v), (2, .int .i64 via), (7, .int .i64 ((dartsL E L v).getD i.toNat 0)), (43, u), (44, .int .i64 ((dartsL E L v).length : Int)), (45, .int .i64 i)] (((Try.prog.info? 3).isSome = true ∧ IdxOk u i) ∧ (CellOk (On w14) (hdB u) (hdO u + i.toNat * 1) (.int .i64 ((dartsL E L v).getD i.toNat 0))) ∧ (True) ∧ True) hA H ⟨⟨by kernel_rfl, by exact idx_ok (H.get 6 rfl) (by omega) (by omega)⟩, by exact cell_flat (i := i) (H.get 6 rfl) (by omega) (by omega) 0 0, trivial, trivial⟩ fun a w19 hA H hG => ?_
    refine hK18 _ _ ?_
    refine go_seq fun K20 hK20 => ?_
    refine q_reg [(54, .agg #[.int .i64 n, ve]), (56, .int .i64 (headE E ((dartsL E L v).getD i.toNat 0)))] [(0, .pointer (some ⟨fb, 0, none⟩)), (1, .int .i64 v), (2, .int .i64 via), (8, .int .i64 (((dartsL E L v).getD i.toNat 0) / 2)), (9, .int .i64 (headE E ((dartsL E L v).getD i.toNat 0))), (43, u), (44, .int .i64 ((dartsL E L v).length : Int)), (45, .int .i64 i)] ((True) ∧ (0 ≤ ((dartsL E L v).getD i.toNat 0) ∧ 0 < (2 : Int) ∧ InR .i64 ((dartsL E L v).getD i.toNat 0)) ∧ (True) ∧ (True) ∧ (0 < Try.prog.cellsOf 24) ∧ ((Try.prog.info? 24).isSome = true ∧ RowOk (On w19) fb (0 + 0) (Try.prog.cellsOf 24) #[.int .i64 n, ve]) ∧ (True) ∧ (Callable Try.prog 128 ∧ CallOk Try.prog (On w19) 128 [.agg #[.int .i64 n, ve], .int .i64 ((dartsL E L v).getD i.toNat 0)].toArray (.int .i64 (headE E ((dartsL E L v).getD i.toNat 0)))) ∧ (True) ∧ (True) ∧ True) hA H ⟨trivial, ⟨by omega, by omega, by omega, by omega⟩, trivial, trivial, by decide +kernel, ⟨by kernel_rfl, by exact box_row H 0 rfl 0 2⟩, trivial, ⟨callable_of, callOk_of fun w hw => by exact btarget_any n ve E ((dartsL E L v).getD i.toNat 0) w (by omega) (((H.on hw).arg hE)) (by omega) (by omega) (by omega)⟩, trivial, trivial, trivial⟩ fun a w21 hA H hG => ?_
    refine hK20 _ _ ?_
    refine go_block 2 ?_
    refine go_seq fun K22 hK22 => ?_
    refine q_reg [] [(0, .pointer (some ⟨fb, 0, none⟩)), (1, .int .i64 v), (2, .int .i64 via), (8, .int .i64 (((dartsL E L v).getD i.toNat 0) / 2)), (9, .int .i64 (headE E ((dartsL E L v).getD i.toNat 0))), (43, u), (44, .int .i64 ((dartsL E L v).length : Int)), (45, .int .i64 i), (57, .bool (decide (headE E ((dartsL E L v).getD i.toNat 0) = v)))] ((True) ∧ (True) ∧ (True) ∧ (True) ∧ True) hA H ⟨trivial, trivial, trivial, trivial, trivial⟩ fun a w23 hA H hG => ?_
    refine hK22 _ _ ?_
    refine go_cond hA (.tmp 57) (decide (headE E ((dartsL E L v).getD i.toNat 0) = v)) (fun hb24 => ?_) (fun hb24 => ?_)
    · have hhb24 := of_decide_eq_true hb24
      refine region_list ?_
      refine q_list 0 6 [(64, (.map (some pb)))] [(0, .pointer (some ⟨fb, 0, none⟩)), (1, .int .i64 v), (2, .int .i64 via), (43, u), (44, .int .i64 ((dartsL E L v).length : Int)), (45, .int .i64 i), (64, (.map (some pb))), (65, .int .i64 (((dartsL E L v).getD i.toNat 0) / 2)), (66, .int .i64 (((dartsL E L v).getD i.toNat 0) / 2))] ((True) ∧ (True) ∧ (0 < Try.prog.cellsOf 104) ∧ (CellOk (On w23) fb (0 + 7) ((.map (some pb)))) ∧ (True) ∧ (True) ∧ True) hA H ⟨trivial, trivial, by decide +kernel, by exact box_cell H 0 rfl 7, trivial, trivial, trivial⟩ fun a w25 hA H hG => ?_
      refine list_at 6 ?_; refine q_lit 6 67 27 1 #[(0, .tmp 66)] 3 [(0, .int .i64 (((dartsL E L v).getD i.toNat 0) / 2))] [.int .i64 (((dartsL E L v).getD i.toNat 0) / 2)] [(0, .pointer (some ⟨fb, 0, none⟩)), (1, .int .i64 v), (2, .int .i64 via), (43, u), (44, .int .i64 ((dartsL E L v).length : Int)), (45, .int .i64 i), (64, (.map (some pb))), (65, .int .i64 (((dartsL E L v).getD i.toNat 0) / 2))] hA H fun b26 a w27 H hA hG hge_b26 => ?_
      clear hge_b26
      obtain ⟨S, _, H⟩ := H.freezeBox 0 rfl (by exact (RowRd.single (α := Int) (a := ((dartsL E L v).getD i.toNat 0) / 2) (by exact rfl))) (n := 1) rfl (by decide)
      replace H : Fr _ _ _ (.ro (.slice (some ⟨b26, 0, none⟩) 1 1) ([((dartsL E L v).getD i.toNat 0) / 2] : List Int) :: .box fb 106 [.int .i64 n, ve, vd, (.slice (some ⟨mb, 0, none⟩) n.toNat n.toNat), (.slice (some ⟨lb, 0, none⟩) n.toNat n.toNat), .int .i64 t.cnt, eu, (.map (some pb))] :: .box mb 3 (arrV n fun j => .int .i64 (t.met j)) :: .box lb 3 (arrV n fun j => .int .i64 (t.low j)) :: .row 3 eu t.stk :: mapR Try.prog 3 pb iu :: .ro vd DL :: .ro u (dartsL E L v) :: tl) := H
      refine list_at 7 ?_; refine q_mapUpdate 7 104 (.tmp 64) (.tmp 65) (.tmp 67) 5 pb iu (((dartsL E L v).getD i.toNat 0) / 2) (.slice (some ⟨b26, 0, none⟩) 1 1) ([((dartsL E L v).getD i.toNat 0) / 2] : List Int) [(0, .pointer (some ⟨fb, 0, none⟩)), (1, .int .i64 v), (2, .int .i64 via), (43, u), (44, .int .i64 ((dartsL E L v).length : Int)), (45, .int .i64 i)] hA H rfl (H.getS 0 rfl) ⟨by omega, by omega⟩ (by (try simp only [List.length_append, List.length_cons, List.length_nil]); omega) Try.underlying104 Try.underlying3 fun a w29 H hA hG => ?_
      replace H : Fr _ _ _ (.ro (.slice (some ⟨b26, 0, none⟩) 1 1) ([((dartsL E L v).getD i.toNat 0) / 2] : List Int) :: .box fb 106 [.int .i64 n, ve, vd, (.slice (some ⟨mb, 0, none⟩) n.toNat n.toNat), (.slice (some ⟨lb, 0, none⟩) n.toNat n.toNat), .int .i64 t.cnt, eu, (.map (some pb))] :: .box mb 3 (arrV n fun j => .int .i64 (t.met j)) :: .box lb 3 (arrV n fun j => .int .i64 (t.low j)) :: .row 3 eu t.stk :: mapR Try.prog 3 (α := List (Int)) pb (iu ++ [(((dartsL E L v).getD i.toNat 0) / 2, (.slice (some ⟨b26, 0, none⟩) 1 1), ([((dartsL E L v).getD i.toNat 0) / 2] : List Int))]) :: .ro vd DL :: .ro u (dartsL E L v) :: tl) := H
      refine list_end ?_
      refine hK17 _ _ ?_
      refine q_reg [] [(0, .pointer (some ⟨fb, 0, none⟩)), (1, .int .i64 v), (2, .int .i64 via), (43, u), (44, .int .i64 ((dartsL E L v).length : Int)), (45, .int .i64 (i + 1))] ((InR .i64 (i + 1)) ∧ (True) ∧ True) hA H ⟨⟨by omega, by omega⟩, trivial, trivial⟩ fun a w30 hA H hG => ?_
      replace H := H.drop 0
      refine ⟨(i + 1, { t with ins := t.ins ++ [(((dartsL E L v).getD i.toNat 0) / 2, [((dartsL E L v).getD i.toNat 0) / 2])] }, eu, iu ++ [(((dartsL E L v).getD i.toNat 0) / 2, (.slice (some ⟨b26, 0, none⟩) 1 1), ([((dartsL E L v).getD i.toNat 0) / 2] : List Int))]), ⟨env_sub _ hA, ⟨_, H⟩, ?_⟩, ?_⟩
      · (try dsimp only); exact ⟨by omega, hc, Deep.steps_lp hst hhb24, by show List.map _ (_ ++ _) = _ ++ _; rw [List.map_append]; exact congr (congrArg _ hit) rfl⟩
      · (try dsimp only); omega
    · have hhb24 := of_decide_eq_false hb24
      refine go_seq fun K31 hK31 => ?_
      refine q_reg [] [(0, .pointer (some ⟨fb, 0, none⟩)), (1, .int .i64 v), (2, .int .i64 via), (8, .int .i64 (((dartsL E L v).getD i.toNat 0) / 2)), (9, .int .i64 (headE E ((dartsL E L v).getD i.toNat 0))), (43, u), (44, .int .i64 ((dartsL E L v).length : Int)), (45, .int .i64 i), (68, .bool (decide (((dartsL E L v).getD i.toNat 0) / 2 = via)))] ((True) ∧ (True) ∧ (True) ∧ (True) ∧ True) hA H ⟨trivial, trivial, trivial, trivial, trivial⟩ fun a w32 hA H hG => ?_
      refine hK31 _ _ ?_
      refine go_cond hA (.tmp 68) (decide (((dartsL E L v).getD i.toNat 0) / 2 = via)) (fun hb33 => ?_) (fun hb33 => ?_)
      · have hhb33 := of_decide_eq_true hb33
        refine go_skip ?_
        refine hK17 _ _ ?_
        refine q_reg [] [(0, .pointer (some ⟨fb, 0, none⟩)), (1, .int .i64 v), (2, .int .i64 via), (43, u), (44, .int .i64 ((dartsL E L v).length : Int)), (45, .int .i64 (i + 1))] ((InR .i64 (i + 1)) ∧ (True) ∧ True) hA H ⟨⟨by omega, by omega⟩, trivial, trivial⟩ fun a w34 hA H hG => ?_
        refine ⟨(i + 1, t, eu, iu), ⟨env_sub _ hA, ⟨_, H⟩, ?_⟩, ?_⟩
        · (try dsimp only); exact ⟨by omega, hc, Deep.steps_via hst hhb24 hhb33, hit⟩
        · (try dsimp only); omega
      · have hhb33 := of_decide_eq_false hb33
        refine go_seq fun K35 hK35 => ?_
        refine q_reg [(76, (.slice (some ⟨mb, 0, none⟩) n.toNat n.toNat)), (79, .int .i64 (t.met (headE E ((dartsL E L v).getD i.toNat 0))))] [(0, .pointer (some ⟨fb, 0, none⟩)), (1, .int .i64 v), (2, .int .i64 via), (8, .int .i64 (((dartsL E L v).getD i.toNat 0) / 2)), (9, .int .i64 (headE E ((dartsL E L v).getD i.toNat 0))), (43, u), (44, .int .i64 ((dartsL E L v).length : Int)), (45, .int .i64 i), (72, .bool (decide (t.met (headE E ((dartsL E L v).getD i.toNat 0)) = 0)))] ((True) ∧ (True) ∧ (0 < Try.prog.cellsOf 27) ∧ (CellOk (On w32) fb (0 + 3) ((.slice (some ⟨mb, 0, none⟩) n.toNat n.toNat))) ∧ (True) ∧ ((Try.prog.info? 3).isSome = true ∧ IdxOk (.slice (some ⟨mb, 0, none⟩) n.toNat n.toNat) (headE E ((dartsL E L v).getD i.toNat 0))) ∧ (CellOk (On w32) mb (0 + (headE E ((dartsL E L v).getD i.toNat 0)).toNat * 1) (.int .i64 (t.met (headE E ((dartsL E L v).getD i.toNat 0))))) ∧ (True) ∧ (True) ∧ True) hA H ⟨trivial, trivial, by decide +kernel, by exact box_cell H 0 rfl 3, trivial, ⟨by kernel_rfl, arr_idx (by omega) (by omega)⟩, by exact arr_cell H 1 rfl (by omega) (by omega), trivial, trivial, trivial⟩ fun a w36 hA H hG => ?_
        refine hK35 _ _ ?_
        refine go_cond hA (.tmp 72) (decide (t.met (headE E ((dartsL E L v).getD i.toNat 0)) = 0)) (fun hb37 => ?_) (fun hb37 => ?_)
        · have hhb37 := of_decide_eq_true hb37
          refine go_seq fun K38 hK38 => ?_
          refine region_list ?_
          refine q_list 0 6 [(85, eu)] [(0, .pointer (some ⟨fb, 0, none⟩)), (1, .int .i64 v), (2, .int .i64 via), (8, .int .i64 (((dartsL E L v).getD i.toNat 0) / 2)), (9, .int .i64 (headE E ((dartsL E L v).getD i.toNat 0))), (43, u), (44, .int .i64 ((dartsL E L v).length : Int)), (45, .int .i64 i), (81, .pointer (some ⟨fb, 0, none⟩)), (85, eu), (86, .int .i64 (((dartsL E L v).getD i.toNat 0) / 2))] ((True) ∧ (True) ∧ (True) ∧ (0 < Try.prog.cellsOf 27) ∧ (CellOk (On w36) fb (0 + 6) (eu)) ∧ (True) ∧ True) hA H ⟨trivial, trivial, trivial, by decide +kernel, by exact box_cell H 0 rfl 6, trivial, trivial⟩ fun a w39 hA H hG => ?_
          refine list_at 6 ?_; refine q_lit 6 87 27 1 #[(0, .tmp 86)] 3 [(0, .int .i64 (((dartsL E L v).getD i.toNat 0) / 2))] [.int .i64 (((dartsL E L v).getD i.toNat 0) / 2)] [(0, .pointer (some ⟨fb, 0, none⟩)), (1, .int .i64 v), (2, .int .i64 via), (8, .int .i64 (((dartsL E L v).getD i.toNat 0) / 2)), (9, .int .i64 (headE E ((dartsL E L v).getD i.toNat 0))), (43, u), (44, .int .i64 ((dartsL E L v).length : Int)), (45, .int .i64 i), (81, .pointer (some ⟨fb, 0, none⟩)), (85, eu)] hA H fun b40 a w41 H hA hG hge_b40 => ?_
          clear hge_b40
          refine list_at 7 ?_; refine q_push 7 88 (.tmp 85) (.tmp 87) 4 0 b40 1 1 eu t.stk [((dartsL E L v).getD i.toNat 0) / 2] [.int .i64 (((dartsL E L v).getD i.toNat 0) / 2)] [(0, .pointer (some ⟨fb, 0, none⟩)), (1, .int .i64 v), (2, .int .i64 via), (8, .int .i64 (((dartsL E L v).getD i.toNat 0) / 2)), (9, .int .i64 (headE E ((dartsL E L v).getD i.toNat 0))), (43, u), (44, .int .i64 ((dartsL E L v).length : Int)), (45, .int .i64 i), (81, .pointer (some ⟨fb, 0, none⟩))] hA H Try.E27 rfl rfl (by exact (RowRd.single (α := Int) rfl)) rfl (by simp only [List.length_cons, List.length_nil, List.length_append]; omega) (by decide) fun v42 a w43 H hA hG => ?_
          replace H : Fr _ _ _ (.box fb 106 [.int .i64 n, ve, vd, (.slice (some ⟨mb, 0, none⟩) n.toNat n.toNat), (.slice (some ⟨lb, 0, none⟩) n.toNat n.toNat), .int .i64 t.cnt, eu, (.map (some pb))] :: .box mb 3 (arrV n fun j => .int .i64 (t.met j)) :: .box lb 3 (arrV n fun j => .int .i64 (t.low j)) :: .row 3 v42 (t.stk ++ [((dartsL E L v).getD i.toNat 0) / 2]) :: mapR Try.prog 3 pb iu :: .ro vd DL :: .ro u (dartsL E L v) :: tl) := H.drop 0
          refine q_list 8 2 [] [(0, .pointer (some ⟨fb, 0, none⟩)), (1, .int .i64 v), (2, .int .i64 via), (8, .int .i64 (((dartsL E L v).getD i.toNat 0) / 2)), (9, .int .i64 (headE E ((dartsL E L v).getD i.toNat 0))), (43, u), (44, .int .i64 ((dartsL E L v).length : Int)), (45, .int .i64 i), (88, v42), (90, .pointer (some ⟨fb, 0 + 6, none⟩))] ((True) ∧ (0 < Try.prog.cellsOf 27) ∧ True) hA H ⟨trivial, by decide +kernel, trivial⟩ fun a w44 hA H hG => ?_
          refine list_at 10 ?_; refine q_store 10 27 (.tmp 90) (.tmp 88) 0 fb (0 + 6) 106 [.int .i64 n, ve, vd, (.slice (some ⟨mb, 0, none⟩) n.toNat n.toNat), (.slice (some ⟨lb, 0, none⟩) n.toNat n.toNat), .int .i64 t.cnt, eu, (.map (some pb))] [v42] [.int .i64 n, ve, vd, (.slice (some ⟨mb, 0, none⟩) n.toNat n.toNat), (.slice (some ⟨lb, 0, none⟩) n.toNat n.toNat), .int .i64 t.cnt, v42, (.map (some pb))] v42 [(0, .pointer (some ⟨fb, 0, none⟩)), (1, .int .i64 v), (2, .int .i64 via), (8, .int .i64 (((dartsL E L v).getD i.toNat 0) / 2)), (9, .int .i64 (headE E ((dartsL E L v).getD i.toNat 0))), (43, u), (44, .int .i64 ((dartsL E L v).length : Int)), (45, .int .i64 i)] hA H rfl (one_cells (rd_one (H.out 3 rfl))) (Nat.le_of_ble_eq_true (by kernel_rfl)) rfl (fun v hv => by simp only [List.mem_cons, List.not_mem_nil, or_false] at hv; rcases hv with rfl; exact (rd_one (H.out 3 rfl))) fun a w45 H hA hG => ?_
          replace H : Fr _ _ _ (.box fb 106 [.int .i64 n, ve, vd, (.slice (some ⟨mb, 0, none⟩) n.toNat n.toNat), (.slice (some ⟨lb, 0, none⟩) n.toNat n.toNat), .int .i64 t.cnt, v42, (.map (some pb))] :: .box mb 3 (arrV n fun j => .int .i64 (t.met j)) :: .box lb 3 (arrV n fun j => .int .i64 (t.low j)) :: .row 3 v42 (t.stk ++ [((dartsL E L v).getD i.toNat 0) / 2]) :: mapR Try.prog 3 pb iu :: .ro vd DL :: .ro u (dartsL E L v) :: tl) := H
          refine list_end ?_
          refine hK38 _ _ ?_
          refine go_seq fun K46 hK46 => ?_
          refine region_list ?_
          refine q_list 0 3 [] [(0, .pointer (some ⟨fb, 0, none⟩)), (1, .int .i64 v), (2, .int .i64 via), (8, .int .i64 (((dartsL E L v).getD i.toNat 0) / 2)), (9, .int .i64 (headE E ((dartsL E L v).getD i.toNat 0))), (43, u), (44, .int .i64 ((dartsL E L v).length : Int)), (45, .int .i64 i), (91, .pointer (some ⟨fb, 0, none⟩)), (92, .int .i64 (headE E ((dartsL E L v).getD i.toNat 0))), (93, .int .i64 (((dartsL E L v).getD i.toNat 0) / 2))] ((True) ∧ (True) ∧ (True) ∧ True) hA H ⟨trivial, trivial, trivial, trivial⟩ fun a w47 hA H hG => ?_
          obtain ⟨s1, hc1, hk1, hk2⟩ := Deep.steps_go hst hhb24 hhb33 hhb37
          have hb1 : Deep.Bd s1 := by
            by_cases q : s1.low (headE E ((dartsL E L v).getD i.toNat 0)) < s1.met v
            · exact (Deep.steps_bd (Deep.visit_bd h) (hk1 q) hb).low
            · obtain ⟨pre, S0, e1, e2, hk⟩ := hk2 q; exact Deep.Bd.take e1 (Deep.steps_bd (Deep.visit_bd h) hk hb)
          have hc2 := Deep.visit_cnt _ _ _ _ _ hc1; simp only at hc2
          refine list_at 3 ?_; refine q_any 3 94 102 #[.tmp 91, .tmp 92, .tmp 93] #[107, 3, 3] [.pointer (some ⟨fb, 0, none⟩), .int .i64 (headE E ((dartsL E L v).getD i.toNat 0)), .int .i64 (((dartsL E L v).getD i.toNat 0) / 2)] (fun u9 w9 => ∃ S ev9 in9, Fr o w9 S (finR n ve vd DL fb mb lb pb s1 ev9 in9 (.ro u (dartsL E L v) :: tl)) ∧ insOf in9 = s1.ins) [(0, .pointer (some ⟨fb, 0, none⟩)), (1, .int .i64 v), (2, .int .i64 via), (8, .int .i64 (((dartsL E L v).getD i.toNat 0) / 2)), (9, .int .i64 (headE E ((dartsL E L v).getD i.toNat 0))), (43, u), (44, .int .i64 ((dartsL E L v).length : Int)), (45, .int .i64 i)] hA ((ih _ _ { t with stk := t.stk ++ [((dartsL E L v).getD i.toNat 0) / 2] } s1 _ _ v42 iu (.ro u (dartsL E L v) :: tl) hc1 hb1 hc hd2 hd3 H hit).mono fun e9 w9 h9 => ⟨_, h9.1, h9.2⟩) fun v48 a w49 hR50 hA => ?_
          obtain ⟨S, ev2, iu2, H, hi2⟩ := hR50
          replace H : Fr _ _ _ (.box fb 106 [.int .i64 n, ve, vd, (.slice (some ⟨mb, 0, none⟩) n.toNat n.toNat), (.slice (some ⟨lb, 0, none⟩) n.toNat n.toNat), .int .i64 s1.cnt, ev2, (.map (some pb))] :: .box mb 3 (arrV n fun j => .int .i64 (s1.met j)) :: .box lb 3 (arrV n fun j => .int .i64 (s1.low j)) :: .row 3 ev2 s1.stk :: mapR Try.prog 3 pb iu2 :: .ro vd DL :: .ro u (dartsL E L v) :: tl) := H
          refine list_end ?_
          refine hK46 _ _ ?_
          refine go_seq fun K51 hK51 => ?_
          have H0 := H
          have hM0 := H0.keeps none (.inl rfl)
          refine region_mix (But w49 none) [0, 1, 2, 3, 4, 5, 6, 7, 8, 9, 10, 11, 12, 13, 14, 15, 16, 17, 18, 19] 22 ?_
          replace H := H.drawn; have hD := But.drew w49 none
          generalize ({ w49 with drawn := w49.drawn + 1 } : World) = w52 at H hD ⊢
          refine m_take (n := 2) [0, 1, 2, 3, 4, 5, 6, 7, 8, 9, 10, 11, 12, 13, 14, 15, 16, 17, 18, 19] #[true, true, true, true, true, true, true, true, true, true, true, true, true, true, true, true, true, true, true, true, false, false] [(98, (.slice (some ⟨lb, 0, none⟩) n.toNat n.toNat)), (103, (.slice (some ⟨lb, 0, none⟩) n.toNat n.toNat)), (106, .int .i64 (s1.low v)), (110, (.slice (some ⟨lb, 0, none⟩) n.toNat n.toNat)), (113, .int .i64 (s1.low (headE E ((dartsL E L v).getD i.toNat 0)))), (114, .int .i64 (min (s1.low v) (s1.low (headE E ((dartsL E L v).getD i.toNat 0)))))] [(0, .pointer (some ⟨fb, 0, none⟩)), (1, .int .i64 v), (2, .int .i64 via), (8, .int .i64 (((dartsL E L v).getD i.toNat 0) / 2)), (9, .int .i64 (headE E ((dartsL E L v).getD i.toNat 0))), (43, u), (44, .int .i64 ((dartsL E L v).length : Int)), (45, .int .i64 i), (98, (.slice (some ⟨lb, 0, none⟩) n.toNat n.toNat)), (99, .int .i64 v), (114, .int .i64 (min (s1.low v) (s1.low (headE E ((dartsL E L v).getD i.toNat 0)))))] ((True) ∧ (True) ∧ (0 < Try.prog.cellsOf 27) ∧ (CellOk (But w49 none) fb (0 + 4) ((.slice (some ⟨lb, 0, none⟩) n.toNat n.toNat))) ∧ (True) ∧ (True) ∧ (True) ∧ (0 < Try.prog.cellsOf 27) ∧ (CellOk (But w49 none) fb (0 + 4) ((.slice (some ⟨lb, 0, none⟩) n.toNat n.toNat))) ∧ (True) ∧ ((Try.prog.info? 3).isSome = true ∧ IdxOk (.slice (some ⟨lb, 0, none⟩) n.toNat n.toNat) v) ∧ (CellOk (But w49 none) lb (0 + v.toNat * 1) (.int .i64 (s1.low v))) ∧ (True) ∧ (True) ∧ (0 < Try.prog.cellsOf 27) ∧ (CellOk (But w49 none) fb (0 + 4) ((.slice (some ⟨lb, 0, none⟩) n.toNat n.toNat))) ∧ (True) ∧ ((Try.prog.info? 3).isSome = true ∧ IdxOk (.slice (some ⟨lb, 0, none⟩) n.toNat n.toNat) (headE E ((dartsL E L v).getD i.toNat 0))) ∧ (CellOk (But w49 none) lb (0 + (headE E ((dartsL E L v).getD i.toNat 0)).toNat * 1) (.int .i64 (s1.low (headE E ((dartsL E L v).getD i.toNat 0))))) ∧ (∀ ty w, (Builtin.min_ #[3, 3] ty [.int .i64 (s1.low v), .int .i64 (s1.low (headE E ((dartsL E L v).getD i.toNat 0)))].toArray).run Try.prog w = .ok (.int .i64 (min (s1.low v) (s1.low (headE E ((dartsL E L v).getD i.toNat 0))))) w) ∧ True) hA hD ⟨trivial, trivial, by decide +kernel, by exact box_cellC (box_atC H0 none 0 rfl (fun e => by cases e)) 4, trivial, trivial, trivial, by decide +kernel, by exact box_cellC (box_atC H0 none 0 rfl (fun e => by cases e)) 4, trivial, ⟨by kernel_rfl, arr_idx (by omega) (by omega)⟩, by exact arr_cellC (box_atC H0 none 2 rfl (fun e => by cases e)) (by omega) (by omega), trivial, trivial, by decide +kernel, by exact box_cellC (box_atC H0 none 0 rfl (fun e => by cases e)) 4, trivial, ⟨by kernel_rfl, arr_idx (by omega) (by omega)⟩, by exact arr_cellC (box_atC H0 none 2 rfl (fun e => by cases e)) (by omega) (by omega), fun ty w => min_ok ty w, trivial⟩ fun a hA => ?_
          refine m_one 20 ?_; refine q_one 20 [] [(0, .pointer (some ⟨fb, 0, none⟩)), (1, .int .i64 v), (2, .int .i64 via), (8, .int .i64 (((dartsL E L v).getD i.toNat 0) / 2)), (9, .int .i64 (headE E ((dartsL E L v).getD i.toNat 0))), (43, u), (44, .int .i64 ((dartsL E L v).length : Int)), (45, .int .i64 i), (114, .int .i64 (min (s1.low v) (s1.low (headE E ((dartsL E L v).getD i.toNat 0))))), (115, .pointer (some ⟨lb, 0 + v.toNat * 1, none⟩))] (((Try.prog.info? 3).isSome = true ∧ IdxOk (.slice (some ⟨lb, 0, none⟩) n.toNat n.toNat) v) ∧ True) hA H ⟨⟨by kernel_rfl, arr_idx (by omega) (by omega)⟩, trivial⟩ fun a w53 H hA hG => ?_
          refine ⟨fun h => absurd h (by decide), ?_⟩
          refine m_one 21 ?_; refine q_store 21 3 (.tmp 115) (.tmp 114) 2 lb (0 + v.toNat * 1) 3 ((arrV n fun j => .int .i64 (s1.low j))) [.int .i64 (min (s1.low v) (s1.low (headE E ((dartsL E L v).getD i.toNat 0))))] ((arrV n fun j => .int .i64 ((Deep.upd s1.low v (min (s1.low v) (s1.low (headE E ((dartsL E L v).getD i.toNat 0))))) j))) (.int .i64 (min (s1.low v) (s1.low (headE E ((dartsL E L v).getD i.toNat 0))))) [(0, .pointer (some ⟨fb, 0, none⟩)), (1, .int .i64 v), (2, .int .i64 via), (8, .int .i64 (((dartsL E L v).getD i.toNat 0) / 2)), (9, .int .i64 (headE E ((dartsL E L v).getD i.toNat 0))), (43, u), (44, .int .i64 ((dartsL E L v).length : Int)), (45, .int .i64 i)] hA H rfl rfl (arr_room (by omega) (by omega)) (arr_set (by omega) (by omega) (congrArg (Value.int .i64) (Deep.upd_same _ _ _)) (fun j hj => congrArg (Value.int .i64) (Deep.upd_ne _ _ hj))) (fun v hv => by simp only [List.mem_cons, List.not_mem_nil, or_false] at hv; rcases hv with rfl; exact rfl) fun a w54 H hA hG => ?_
          replace H : Fr _ _ _ (.box fb 106 [.int .i64 n, ve, vd, (.slice (some ⟨mb, 0, none⟩) n.toNat n.toNat), (.slice (some ⟨lb, 0, none⟩) n.toNat n.toNat), .int .i64 s1.cnt, ev2, (.map (some pb))] :: .box mb 3 (arrV n fun j => .int .i64 (s1.met j)) :: .box lb 3 (arrV n fun j => .int .i64 ((Deep.upd s1.low v (min (s1.low v) (s1.low (headE E ((dartsL E L v).getD i.toNat 0))))) j)) :: .row 3 ev2 s1.stk :: mapR Try.prog 3 pb iu2 :: .ro vd DL :: .ro u (dartsL E L v) :: tl) := H
          refine ⟨fun h => absurd h (by decide), ?_⟩
          refine m_end ?_
          refine hK51 _ _ ?_
          refine go_seq fun K55 hK55 => ?_
          refine q_draw [(119, (.slice (some ⟨lb, 0, none⟩) n.toNat n.toNat)), (122, .int .i64 ((Deep.upd s1.low v (min (s1.low v) (s1.low (headE E ((dartsL E L v).getD i.toNat 0))))) (headE E ((dartsL E L v).getD i.toNat 0)))), (126, (.slice (some ⟨mb, 0, none⟩) n.toNat n.toNat)), (129, .int .i64 (s1.met v))] [(0, .pointer (some ⟨fb, 0, none⟩)), (1, .int .i64 v), (2, .int .i64 via), (8, .int .i64 (((dartsL E L v).getD i.toNat 0) / 2)), (43, u), (44, .int .i64 ((dartsL E L v).length : Int)), (45, .int .i64 i), (130, .bool (decide (s1.met v ≤ (Deep.upd s1.low v (min (s1.low v) (s1.low (headE E ((dartsL E L v).getD i.toNat 0))))) (headE E ((dartsL E L v).getD i.toNat 0)))))] ((True) ∧ (True) ∧ (0 < Try.prog.cellsOf 27) ∧ (CellOk (On w54) fb (0 + 4) ((.slice (some ⟨lb, 0, none⟩) n.toNat n.toNat))) ∧ (True) ∧ ((Try.prog.info? 3).isSome = true ∧ IdxOk (.slice (some ⟨lb, 0, none⟩) n.toNat n.toNat) (headE E ((dartsL E L v).getD i.toNat 0))) ∧ (CellOk (On w54) lb (0 + (headE E ((dartsL E L v).getD i.toNat 0)).toNat * 1) (.int .i64 ((Deep.upd s1.low v (min (s1.low v) (s1.low (headE E ((dartsL E L v).getD i.toNat 0))))) (headE E ((dartsL E L v).getD i.toNat 0))))) ∧ (True) ∧ (True) ∧ (0 < Try.prog.cellsOf 27) ∧ (CellOk (On w54) fb (0 + 3) ((.slice (some ⟨mb, 0, none⟩) n.toNat n.toNat))) ∧ (True) ∧ ((Try.prog.info? 3).isSome = true ∧ IdxOk (.slice (some ⟨mb, 0, none⟩) n.toNat n.toNat) v) ∧ (CellOk (On w54) mb (0 + v.toNat * 1) (.int .i64 (s1.met v))) ∧ (True) ∧ True) hA H ⟨trivial, trivial, by decide +kernel, by exact box_cell H 0 rfl 4, trivial, ⟨by kernel_rfl, arr_idx (by omega) (by omega)⟩, by exact arr_cell H 2 rfl (by omega) (by omega), trivial, trivial, by decide +kernel, by exact box_cell H 0 rfl 3, trivial, ⟨by kernel_rfl, arr_idx (by omega) (by omega)⟩, by exact arr_cell H 1 rfl (by omega) (by omega), trivial, trivial⟩ fun a w56 hA H hG => ?_
          refine hK55 _ _ ?_
          refine go_cond hA (.tmp 130) (decide (s1.met v ≤ (Deep.upd s1.low v (min (s1.low v) (s1.low (headE E ((dartsL E L v).getD i.toNat 0))))) (headE E ((dartsL E L v).getD i.toNat 0)))) (fun hb57 => ?_) (fun hb57 => ?_)
          · have hhb57 := of_decide_eq_true hb57
            refine region_list ?_
            refine q_list 0 2 [] [(0, .pointer (some ⟨fb, 0, none⟩)), (1, .int .i64 v), (2, .int .i64 via), (43, u), (44, .int .i64 ((dartsL E L v).length : Int)), (45, .int .i64 i), (131, .pointer (some ⟨fb, 0, none⟩)), (132, .int .i64 (((dartsL E L v).getD i.toNat 0) / 2))] ((True) ∧ (True) ∧ True) hA H ⟨trivial, trivial, trivial⟩ fun a w58 hA H hG => ?_
            have hge : ¬ s1.low (headE E ((dartsL E L v).getD i.toNat 0)) < s1.met v := by have q := hhb57; rw [Deep.upd_ne _ _ hhb24] at q; omega
            obtain ⟨pre, S0, hs1, hs2, hk3⟩ := hk2 hge
            refine list_at 2 ?_; refine q_any 2 133 129 #[.tmp 131, .tmp 132] #[107, 3] [.pointer (some ⟨fb, 0, none⟩), .int .i64 (((dartsL E L v).getD i.toNat 0) / 2)] (fun u9 w9 => ∃ S ev9 in9, Fr o w9 S (finR n ve vd DL fb mb lb pb ({ s1 with low := (Deep.upd s1.low v (min (s1.low v) (s1.low (headE E ((dartsL E L v).getD i.toNat 0))))), stk := pre, blk := s1.blk ++ [((dartsL E L v).getD i.toNat 0) / 2 :: S0], ins := s1.ins ++ [Deep.key (((dartsL E L v).getD i.toNat 0) / 2 :: S0)] }) ev9 in9 (.ro u (dartsL E L v) :: tl)) ∧ insOf in9 = s1.ins ++ [Deep.key (((dartsL E L v).getD i.toNat 0) / 2 :: S0)]) [(0, .pointer (some ⟨fb, 0, none⟩)), (1, .int .i64 v), (2, .int .i64 via), (43, u), (44, .int .i64 ((dartsL E L v).length : Int)), (45, .int .i64 i)] hA ((take_any n ve E L vd DL fb mb lb pb o _ { s1 with low := (Deep.upd s1.low v (min (s1.low v) (s1.low (headE E ((dartsL E L v).getD i.toNat 0))))) } ev2 iu2 (.ro u (dartsL E L v) :: tl) pre S0 _ _ hE H hs1 hs2 ⟨hb1.cnt, hb1.len, hb1.mem, hb1.ins⟩ hi2).mono fun e9 w9 h9 => ⟨_, h9.1, h9.2⟩) fun v59 a w60 hR61 hA => ?_
            obtain ⟨S, ev3, iu3, H, hi3⟩ := hR61
            replace H : Fr _ _ _ (.box fb 106 [.int .i64 n, ve, vd, (.slice (some ⟨mb, 0, none⟩) n.toNat n.toNat), (.slice (some ⟨lb, 0, none⟩) n.toNat n.toNat), .int .i64 s1.cnt, ev3, (.map (some pb))] :: .box mb 3 (arrV n fun j => .int .i64 (s1.met j)) :: .box lb 3 (arrV n fun j => .int .i64 ((Deep.upd s1.low v (min (s1.low v) (s1.low (headE E ((dartsL E L v).getD i.toNat 0))))) j)) :: .row 3 ev3 pre :: mapR Try.prog 3 pb iu3 :: .ro vd DL :: .ro u (dartsL E L v) :: tl) := H
            refine list_end ?_
            refine hK17 _ _ ?_
            refine q_reg [] [(0, .pointer (some ⟨fb, 0, none⟩)), (1, .int .i64 v), (2, .int .i64 via), (43, u), (44, .int .i64 ((dartsL E L v).length : Int)), (45, .int .i64 (i + 1))] ((InR .i64 (i + 1)) ∧ (True) ∧ True) hA H ⟨⟨by omega, by omega⟩, trivial, trivial⟩ fun a w62 hA H hG => ?_
            refine ⟨(i + 1, { s1 with low := (Deep.upd s1.low v (min (s1.low v) (s1.low (headE E ((dartsL E L v).getD i.toNat 0))))), stk := pre, blk := s1.blk ++ [((dartsL E L v).getD i.toNat 0) / 2 :: S0], ins := s1.ins ++ [Deep.key (((dartsL E L v).getD i.toNat 0) / 2 :: S0)] }, ev3, iu3), ⟨env_sub _ hA, ⟨_, H⟩, ?_⟩, ?_⟩
            · (try dsimp only); exact ⟨by omega, by show 0 ≤ s1.cnt; omega, hk3, hi3⟩
            · (try dsimp only); omega
          · have hhb57 := of_decide_eq_false hb57
            refine go_skip ?_
            refine hK17 _ _ ?_
            refine q_reg [] [(0, .pointer (some ⟨fb, 0, none⟩)), (1, .int .i64 v), (2, .int .i64 via), (43, u), (44, .int .i64 ((dartsL E L v).length : Int)), (45, .int .i64 (i + 1))] ((InR .i64 (i + 1)) ∧ (True) ∧ True) hA H ⟨⟨by omega, by omega⟩, trivial, trivial⟩ fun a w63 hA H hG => ?_
            refine ⟨(i + 1, { s1 with low := (Deep.upd s1.low v (min (s1.low v) (s1.low (headE E ((dartsL E L v).getD i.toNat 0))))) }, ev2, iu2), ⟨env_sub _ hA, ⟨_, H⟩, ?_⟩, ?_⟩
            · (try dsimp only); exact ⟨by omega, by show 0 ≤ s1.cnt; omega, hk1 (by have q := hhb57; rw [Deep.upd_ne _ _ hhb24] at q; omega), hi2⟩
            · (try dsimp only); omega
        · have hhb37 := of_decide_eq_false hb37
          refine go_seq fun K64 hK64 => ?_
          refine q_draw [(138, (.slice (some ⟨mb, 0, none⟩) n.toNat n.toNat)), (141, .int .i64 (t.met (headE E ((dartsL E L v).getD i.toNat 0)))), (145, (.slice (some ⟨mb, 0, none⟩) n.toNat n.toNat)), (148, .int .i64 (t.met v))] [(0, .pointer (some ⟨fb, 0, none⟩)), (1, .int .i64 v), (2, .int .i64 via), (8, .int .i64 (((dartsL E L v).getD i.toNat 0) / 2)), (9, .int .i64 (headE E ((dartsL E L v).getD i.toNat 0))), (43, u), (44, .int .i64 ((dartsL E L v).length : Int)), (45, .int .i64 i), (134, .bool (decide (t.met (headE E ((dartsL E L v).getD i.toNat 0)) < t.met v)))] ((True) ∧ (True) ∧ (0 < Try.prog.cellsOf 27) ∧ (CellOk (On w36) fb (0 + 3) ((.slice (some ⟨mb, 0, none⟩) n.toNat n.toNat))) ∧ (True) ∧ ((Try.prog.info? 3).isSome = true ∧ IdxOk (.slice (some ⟨mb, 0, none⟩) n.toNat n.toNat) (headE E ((dartsL E L v).getD i.toNat 0))) ∧ (CellOk (On w36) mb (0 + (headE E ((dartsL E L v).getD i.toNat 0)).toNat * 1) (.int .i64 (t.met (headE E ((dartsL E L v).getD i.toNat 0))))) ∧ (True) ∧ (True) ∧ (0 < Try.prog.cellsOf 27) ∧ (CellOk (On w36) fb (0 + 3) ((.slice (some ⟨mb, 0, none⟩) n.toNat n.toNat))) ∧ (True) ∧ ((Try.prog.info? 3).isSome = true ∧ IdxOk (.slice (some ⟨mb, 0, none⟩) n.toNat n.toNat) v) ∧ (CellOk (On w36) mb (0 + v.toNat * 1) (.int .i64 (t.met v))) ∧ (True) ∧ (True) ∧ True) hA H ⟨trivial, trivial, by decide +kernel, by exact box_cell H 0 rfl 3, trivial, ⟨by kernel_rfl, arr_idx (by omega) (by omega)⟩, by exact arr_cell H 1 rfl (by omega) (by omega), trivial, trivial, by decide +kernel, by exact box_cell H 0 rfl 3, trivial, ⟨by kernel_rfl, arr_idx (by omega) (by omega)⟩, by exact arr_cell H 1 rfl (by omega) (by omega), trivial, trivial, trivial⟩ fun a w65 hA H hG => ?_
          refine hK64 _ _ ?_
          refine go_cond hA (.tmp 134) (decide (t.met (headE E ((dartsL E L v).getD i.toNat 0)) < t.met v)) (fun hb66 => ?_) (fun hb66 => ?_)
          · have hhb66 := of_decide_eq_true hb66
            refine go_seq fun K67 hK67 => ?_
            refine region_list ?_
            refine q_list 0 6 [(154, eu)] [(0, .pointer (some ⟨fb, 0, none⟩)), (1, .int .i64 v), (2, .int .i64 via), (9, .int .i64 (headE E ((dartsL E L v).getD i.toNat 0))), (43, u), (44, .int .i64 ((dartsL E L v).length : Int)), (45, .int .i64 i), (150, .pointer (some ⟨fb, 0, none⟩)), (154, eu), (155, .int .i64 (((dartsL E L v).getD i.toNat 0) / 2))] ((True) ∧ (True) ∧ (True) ∧ (0 < Try.prog.cellsOf 27) ∧ (CellOk (On w65) fb (0 + 6) (eu)) ∧ (True) ∧ True) hA H ⟨trivial, trivial, trivial, by decide +kernel, by exact box_cell H 0 rfl 6, trivial, trivial⟩ fun a w68 hA H hG => ?_
            refine list_at 6 ?_; refine q_lit 6 156 27 1 #[(0, .tmp 155)] 3 [(0, .int .i64 (((dartsL E L v).getD i.toNat 0) / 2))] [.int .i64 (((dartsL E L v).getD i.toNat 0) / 2)] [(0, .pointer (some ⟨fb, 0, none⟩)), (1, .int .i64 v), (2, .int .i64 via), (9, .int .i64 (headE E ((dartsL E L v).getD i.toNat 0))), (43, u), (44, .int .i64 ((dartsL E L v).length : Int)), (45, .int .i64 i), (150, .pointer (some ⟨fb, 0, none⟩)), (154, eu)] hA H fun b69 a w70 H hA hG hge_b69 => ?_
            clear hge_b69
            refine list_at 7 ?_; refine q_push 7 157 (.tmp 154) (.tmp 156) 4 0 b69 1 1 eu t.stk [((dartsL E L v).getD i.toNat 0) / 2] [.int .i64 (((dartsL E L v).getD i.toNat 0) / 2)] [(0, .pointer (some ⟨fb, 0, none⟩)), (1, .int .i64 v), (2, .int .i64 via), (9, .int .i64 (headE E ((dartsL E L v).getD i.toNat 0))), (43, u), (44, .int .i64 ((dartsL E L v).length : Int)), (45, .int .i64 i), (150, .pointer (some ⟨fb, 0, none⟩))] hA H Try.E27 rfl rfl (by exact (RowRd.single (α := Int) rfl)) rfl (by simp only [List.length_cons, List.length_nil, List.length_append]; omega) (by decide) fun v71 a w72 H hA hG => ?_
            replace H : Fr _ _ _ (.box fb 106 [.int .i64 n, ve, vd, (.slice (some ⟨mb, 0, none⟩) n.toNat n.toNat), (.slice (some ⟨lb, 0, none⟩) n.toNat n.toNat), .int .i64 t.cnt, eu, (.map (some pb))] :: .box mb 3 (arrV n fun j => .int .i64 (t.met j)) :: .box lb 3 (arrV n fun j => .int .i64 (t.low j)) :: .row 3 v71 (t.stk ++ [((dartsL E L v).getD i.toNat 0) / 2]) :: mapR Try.prog 3 pb iu :: .ro vd DL :: .ro u (dartsL E L v) :: tl) := H.drop 0
            refine q_list 8 2 [] [(0, .pointer (some ⟨fb, 0, none⟩)), (1, .int .i64 v), (2, .int .i64 via), (9, .int .i64 (headE E ((dartsL E L v).getD i.toNat 0))), (43, u), (44, .int .i64 ((dartsL E L v).length : Int)), (45, .int .i64 i), (157, v71), (159, .pointer (some ⟨fb, 0 + 6, none⟩))] ((True) ∧ (0 < Try.prog.cellsOf 27) ∧ True) hA H ⟨trivial, by decide +kernel, trivial⟩ fun a w73 hA H hG => ?_
            refine list_at 10 ?_; refine q_store 10 27 (.tmp 159) (.tmp 157) 0 fb (0 + 6) 106 [.int .i64 n, ve, vd, (.slice (some ⟨mb, 0, none⟩) n.toNat n.toNat), (.slice (some ⟨lb, 0, none⟩) n.toNat n.toNat), .int .i64 t.cnt, eu, (.map (some pb))] [v71] [.int .i64 n, ve, vd, (.slice (some ⟨mb, 0, none⟩) n.toNat n.toNat), (.slice (some ⟨lb, 0, none⟩) n.toNat n.toNat), .int .i64 t.cnt, v71, (.map (some pb))] v71 [(0, .pointer (some ⟨fb, 0, none⟩)), (1, .int .i64 v), (2, .int .i64 via), (9, .int .i64 (headE E ((dartsL E L v).getD i.toNat 0))), (43, u), (44, .int .i64 ((dartsL E L v).length : Int)), (45, .int .i64 i)] hA H rfl (one_cells (rd_one (H.out 3 rfl))) (Nat.le_of_ble_eq_true (by kernel_rfl)) rfl (fun v hv => by simp only [List.mem_cons, List.not_mem_nil, or_false] at hv; rcases hv with rfl; exact (rd_one (H.out 3 rfl))) fun a w74 H hA hG => ?_
            replace H : Fr _ _ _ (.box fb 106 [.int .i64 n, ve, vd, (.slice (some ⟨mb, 0, none⟩) n.toNat n.toNat), (.slice (some ⟨lb, 0, none⟩) n.toNat n.toNat), .int .i64 t.cnt, v71, (.map (some pb))] :: .box mb 3 (arrV n fun j => .int .i64 (t.met j)) :: .box lb 3 (arrV n fun j => .int .i64 (t.low j)) :: .row 3 v71 (t.stk ++ [((dartsL E L v).getD i.toNat 0) / 2]) :: mapR Try.prog 3 pb iu :: .ro vd DL :: .ro u (dartsL E L v) :: tl) := H
            refine list_end ?_
            refine hK67 _ _ ?_
            have H0 := H
            have hM0 := H0.keeps none (.inl rfl)
            refine region_mix (But w74 none) [0, 1, 2, 3, 4, 5, 6, 7, 8, 9, 10, 11, 12, 13, 14, 15, 16, 17, 18, 19] 22 ?_
            replace H := H.drawn; have hD := But.drew w74 none
            generalize ({ w74 with drawn := w74.drawn + 1 } : World) = w75 at H hD ⊢
            refine m_take (n := 2) [0, 1, 2, 3, 4, 5, 6, 7, 8, 9, 10, 11, 12, 13, 14, 15, 16, 17, 18, 19] #[true, true, true, true, true, true, true, true, true, true, true, true, true, true, true, true, true, true, true, true, false, false] [(163, (.slice (some ⟨lb, 0, none⟩) n.toNat n.toNat)), (168, (.slice (some ⟨lb, 0, none⟩) n.toNat n.toNat)), (171, .int .i64 (t.low v)), (175, (.slice (some ⟨mb, 0, none⟩) n.toNat n.toNat)), (178, .int .i64 (t.met (headE E ((dartsL E L v).getD i.toNat 0)))), (179, .int .i64 (min (t.low v) (t.met (headE E ((dartsL E L v).getD i.toNat 0)))))] [(0, .pointer (some ⟨fb, 0, none⟩)), (1, .int .i64 v), (2, .int .i64 via), (43, u), (44, .int .i64 ((dartsL E L v).length : Int)), (45, .int .i64 i), (163, (.slice (some ⟨lb, 0, none⟩) n.toNat n.toNat)), (164, .int .i64 v), (179, .int .i64 (min (t.low v) (t.met (headE E ((dartsL E L v).getD i.toNat 0)))))] ((True) ∧ (True) ∧ (0 < Try.prog.cellsOf 27) ∧ (CellOk (But w74 none) fb (0 + 4) ((.slice (some ⟨lb, 0, none⟩) n.toNat n.toNat))) ∧ (True) ∧ (True) ∧ (True) ∧ (0 < Try.prog.cellsOf 27) ∧ (CellOk (But w74 none) fb (0 + 4) ((.slice (some ⟨lb, 0, none⟩) n.toNat n.toNat))) ∧ (True) ∧ ((Try.prog.info? 3).isSome = true ∧ IdxOk (.slice (some ⟨lb, 0, none⟩) n.toNat n.toNat) v) ∧ (CellOk (But w74 none) lb (0 + v.toNat * 1) (.int .i64 (t.low v))) ∧ (True) ∧ (True) ∧ (0 < Try.prog.cellsOf 27) ∧ (CellOk (But w74 none) fb (0 + 3) ((.slice (some ⟨mb, 0, none⟩) n.toNat n.toNat))) ∧ (True) ∧ ((Try.prog.info? 3).isSome = true ∧ IdxOk (.slice (some ⟨mb, 0, none⟩) n.toNat n.toNat) (headE E ((dartsL E L v).getD i.toNat 0))) ∧ (CellOk (But w74 none) mb (0 + (headE E ((dartsL E L v).getD i.toNat 0)).toNat * 1) (.int .i64 (t.met (headE E ((dartsL E L v).getD i.toNat 0))))) ∧ (∀ ty w, (Builtin.min_ #[3, 3] ty [.int .i64 (t.low v), .int .i64 (t.met (headE E ((dartsL E L v).getD i.toNat 0)))].toArray).run Try.prog w = .ok (.int .i64 (min (t.low v) (t.met (headE E ((dartsL E L v).getD i.toNat 0))))) w) ∧ True) hA hD ⟨trivial, trivial, by decide +kernel, by exact box_cellC (box_atC H0 none 0 rfl (fun e => by cases e)) 4, trivial, trivial, trivial, by decide +kernel, by exact box_cellC (box_atC H0 none 0 rfl (fun e => by cases e)) 4, trivial, ⟨by kernel_rfl, arr_idx (by omega) (by omega)⟩, by exact arr_cellC (box_atC H0 none 2 rfl (fun e => by cases e)) (by omega) (by omega), trivial, trivial, by decide +kernel, by exact box_cellC (box_atC H0 none 0 rfl (fun e => by cases e)) 3, trivial, ⟨by kernel_rfl, arr_idx (by omega) (by omega)⟩, by exact arr_cellC (box_atC H0 none 1 rfl (fun e => by cases e)) (by omega) (by omega), fun ty w => min_ok ty w, trivial⟩ fun a hA => ?_
            refine m_one 20 ?_; refine q_one 20 [] [(0, .pointer (some ⟨fb, 0, none⟩)), (1, .int .i64 v), (2, .int .i64 via), (43, u), (44, .int .i64 ((dartsL E L v).length : Int)), (45, .int .i64 i), (179, .int .i64 (min (t.low v) (t.met (headE E ((dartsL E L v).getD i.toNat 0))))), (180, .pointer (some ⟨lb, 0 + v.toNat * 1, none⟩))] (((Try.prog.info? 3).isSome = true ∧ IdxOk (.slice (some ⟨lb, 0, none⟩) n.toNat n.toNat) v) ∧ True) hA H ⟨⟨by kernel_rfl, arr_idx (by omega) (by omega)⟩, trivial⟩ fun a w76 H hA hG => ?_
            refine ⟨fun h => absurd h (by decide), ?_⟩
            refine m_one 21 ?_; refine q_store 21 3 (.tmp 180) (.tmp 179) 2 lb (0 + v.toNat * 1) 3 ((arrV n fun j => .int .i64 (t.low j))) [.int .i64 (min (t.low v) (t.met (headE E ((dartsL E L v).getD i.toNat 0))))] ((arrV n fun j => .int .i64 ((Deep.upd t.low v (min (t.low v) (t.met (headE E ((dartsL E L v).getD i.toNat 0))))) j))) (.int .i64 (min (t.low v) (t.met (headE E ((dartsL E L v).getD i.toNat 0))))) [(0, .pointer (some ⟨fb, 0, none⟩)), (1, .int .i64 v), (2, .int .i64 via), (43, u), (44, .int .i64 ((dartsL E L v).length : Int)), (45, .int .i64 i)] hA H rfl rfl (arr_room (by omega) (by omega)) (arr_set (by omega) (by omega) (congrArg (Value.int .i64) (Deep.upd_same _ _ _)) (fun j hj => congrArg (Value.int .i64) (Deep.upd_ne _ _ hj))) (fun v hv => by simp only [List.mem_cons, List.not_mem_nil, or_false] at hv; rcases hv with rfl; exact rfl) fun a w77 H hA hG => ?_
            replace H : Fr _ _ _ (.box fb 106 [.int .i64 n, ve, vd, (.slice (some ⟨mb, 0, none⟩) n.toNat n.toNat), (.slice (some ⟨lb, 0, none⟩) n.toNat n.toNat), .int .i64 t.cnt, v71, (.map (some pb))] :: .box mb 3 (arrV n fun j => .int .i64 (t.met j)) :: .box lb 3 (arrV n fun j => .int .i64 ((Deep.upd t.low v (min (t.low v) (t.met (headE E ((dartsL E L v).getD i.toNat 0))))) j)) :: .row 3 v71 (t.stk ++ [((dartsL E L v).getD i.toNat 0) / 2]) :: mapR Try.prog 3 pb iu :: .ro vd DL :: .ro u (dartsL E L v) :: tl) := H
            refine ⟨fun h => absurd h (by decide), ?_⟩
            refine m_end ?_
            refine hK17 _ _ ?_
            refine q_reg [] [(0, .pointer (some ⟨fb, 0, none⟩)), (1, .int .i64 v), (2, .int .i64 via), (43, u), (44, .int .i64 ((dartsL E L v).length : Int)), (45, .int .i64 (i + 1))] ((InR .i64 (i + 1)) ∧ (True) ∧ True) hA H ⟨⟨by omega, by omega⟩, trivial, trivial⟩ fun a w78 hA H hG => ?_
            refine ⟨(i + 1, { t with stk := t.stk ++ [((dartsL E L v).getD i.toNat 0) / 2], low := Deep.upd t.low v (min (t.low v) (t.met (headE E ((dartsL E L v).getD i.toNat 0)))) }, v71, iu), ⟨env_sub _ hA, ⟨_, H⟩, ?_⟩, ?_⟩
            · (try dsimp only); exact ⟨by omega, hc, Deep.steps_back hst hhb24 hhb33 hhb37 hhb66, hit⟩
            · (try dsimp only); omega
          · have hhb66 := of_decide_eq_false hb66
            refine go_skip ?_
            refine hK17 _ _ ?_
            refine q_reg [] [(0, .pointer (some ⟨fb, 0, none⟩)), (1, .int .i64 v), (2, .int .i64 via), (43, u), (44, .int .i64 ((dartsL E L v).length : Int)), (45, .int .i64 (i + 1))] ((InR .i64 (i + 1)) ∧ (True) ∧ True) hA H ⟨⟨by omega, by omega⟩, trivial, trivial⟩ fun a w79 hA H hG => ?_
            refine ⟨(i + 1, t, eu, iu), ⟨env_sub _ hA, ⟨_, H⟩, ?_⟩, ?_⟩
            · (try dsimp only); exact ⟨by omega, hc, Deep.steps_skip hst hhb24 hhb33 hhb37 hhb66, hit⟩
            · (try dsimp only); omega
  · have hhb16 := of_decide_eq_false hb16
    refine go_exit 0 ?_
    refine ret_noneN (P := Try.prog) (fn := Try.f102) (R := (FinQ n ve vd DL fb mb lb pb s' tl o w)) hA ?_
    rw [drop_end (by omega)] at hst; cases Deep.steps_nil hst
    replace H := H.drop 6
    exact ⟨rfl, _, _, _, H, hit⟩

set_option maxHeartbeats 1000000 in
theorem visit_any (n : Int) (ve : Value) (E : List (Int × Int)) (L : List Int) (vd : Value) (DL : List (List Int)) (fb mb lb pb : Nat) (o : Orig)  (hr : rightE n E = 0) (hL : risesP L (E.length : Int)) (hE : Rd (· < o.w.heap.size) o.w ve E) (hDL : ∀ x, 0 ≤ x → x < n → DL.getD x.toNat [] = dartsL E L x) (hDLn : (DL.length : Int) = n) : ∀ (h : Nat) (w : World) (S : Stab) (s s' : Deep.St) (v via : Int) (ev : Value) (ins : List (Int × Value × List Int)) (tl : List Res), Deep.Visit (dartsL E L) (headE E) h v via s s' → Deep.Bd s' → 0 ≤ s.cnt → 0 ≤ v → v < n → Fr o w S (finR n ve vd DL fb mb lb pb s ev ins tl) → insOf ins = s.ins → Calls Try.prog 102 [.pointer (some ⟨fb, 0, none⟩), .int .i64 v, .int .i64 via].toArray w (FinQ n ve vd DL fb mb lb pb s' tl o w) := by
  intro h
  induction h with
  | zero => intro w S s s' v via ev ins tl hv; exact hv.elim
  | succ h ih =>
    intro w S s s' v via ev ins tl hv hb hc0 hv0 hv1 hH hi
    exact visit_step n ve E L vd DL fb mb lb pb h o S s ev ins tl s' v via w hr hL hE hDL hDLn ih hv hb hc0 hv0 hv1 hH hi
end Go.Proofs.Ytahonnlgkmimlaa
