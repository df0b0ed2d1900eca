/-
  Pairs of lists as results and arguments; a slice appended to a row of the call's own. No program in sight.
-/
import Derived.Test.YtbdgelipabndaaaEngI
set_option linter.unusedSimpArgs false
set_option linter.unusedVariables false
namespace Go.Proofs.Ytbdgelipabndaaa
open Go.RowKit

theorem two_rd {α β : Type} [Data α] [Data β] {S : Stab} {w : World} {v : Value} {x : List α × List β} (h : Rd S w v x) : ∃ a b, v = .agg #[a, b] ∧ Rd S w a x.1 ∧ Rd S w b x.2 := by
  obtain ⟨cs, ⟨c1, c2, rfl, ⟨a, rfl, ha⟩, ⟨b, rfl, hb⟩⟩, rfl⟩ := h
  exact ⟨a, b, rfl, slice_rd ha, slice_rd hb⟩
theorem rd_two {α β : Type} [Data α] [Data β] {S : Stab} {w : World} {a b : Value} {x : List α × List β} (ha : Rd S w a x.1) (hb : Rd S w b x.2) : Rd S w (.agg #[a, b]) x :=
  ⟨[a, b], ⟨[a], [b], rfl, ⟨a, rfl, rd_slice ha⟩, ⟨b, rfl, rd_slice hb⟩⟩, rfl⟩
theorem rd_one {α : Type} [Data α] {S : Stab} {w : World} {v : Value} {l : List α} (h : Rd S w v l) : v.oneCell' = true := by
  obtain ⟨cs, ⟨u, rfl, p, c, rfl, _⟩, rfl⟩ := h
  rfl
theorem one_cells {v : Value} (h : v.oneCell' = true) : v.cells.toList = [v] := by
  cases v <;> first | rfl | (simp [Value.oneCell'] at h; done)
theorem rd_form {α : Type} [Data α] {S : Stab} {w : World} {v : Value} {l : List α} (h : Rd S w v l) : ∃ p n c, v = .slice p n c := by
  obtain ⟨cs, ⟨u, rfl, p, c, rfl, _⟩, rfl⟩ := h
  exact ⟨_, _, _, rfl⟩
/-- What a call handed back, handed on. -/
theorem Fr.giveRo {α : Type} [Data α] {w0 : Orig} {w : World} {S : Stab} {rs : List Res} (h : Fr w0 w S rs) (j : Nat) {v : Value} {a : α} (hj : rs[j]? = some (.ro v a)) : Rd (Since w0 w) w v a :=
  Rd.up h.since (h.ok _ (List.mem_of_getElem? hj))
theorem rd_nil {α : Type} [Data α] {S : Stab} {w : World} : Rd S w (.slice none 0 0) ([] : List α) :=
  slice_rd ⟨none, 0, rfl, by simp, by simp [maxLen], .inl rfl⟩

/-- The cells of a whole slice, in a row. -/
theorem cells_row {α : Type} [Data α] {S : Stab} {w : World} {g off : Nat} {cur : Array Value} {t : TypeId} {fz : Nat × Nat} {l : List α} (hw : w.heap[g]? = some (.cells cur t fz)) (hc : CellsRd S w cur off l) (hp : 0 < Data.size α) :
    ∃ cs, RowRd S w cs l ∧ ∀ j u, cs[j]? = some u → w.cell? ((⟨g, off, none⟩ : Addr).add j) = some u := by
  have hsz : ∀ i, i < l.length → off + i * Data.size α + Data.size α ≤ cur.size := by
    intro i hi
    obtain ⟨cs, hr, hj⟩ := hc i hi
    have hl := Data.len hr
    have := hj (Data.size α - 1) (by omega)
    rw [List.getElem?_eq_getElem (by omega)] at this
    have := (Array.getElem?_eq_some_iff.1 this).1
    omega
  refine ⟨(cur.toList.drop off).take (l.length * Data.size α), ⟨?_, fun i hi => ?_⟩, fun j u hu => ?_⟩
  · have hcl : cur.toList.length = cur.size := Array.length_toList
    rw [List.length_take, List.length_drop, hcl]
    rcases Nat.eq_zero_or_pos l.length with h0 | h0
    · rw [h0]; simp
    · have := hsz (l.length - 1) (by omega)
      have e : l.length * Data.size α = (l.length - 1) * Data.size α + Data.size α := by rw [← Nat.succ_mul]; congr 1; omega
      omega
  · obtain ⟨cs, hr, hj⟩ := hc i hi
    have hl := Data.len hr
    have h1 := hsz i hi
    have h2 : (i + 1) * Data.size α ≤ l.length * Data.size α := Nat.mul_le_mul_right _ hi
    rw [Nat.succ_mul] at h2
    have e : ((List.take (l.length * Data.size α) (List.drop off cur.toList)).drop (i * Data.size α)).take (Data.size α) = cs := by
      apply List.ext_getElem?
      intro j
      rw [List.getElem?_take]
      by_cases hjs : j < Data.size α
      · rw [if_pos hjs, List.getElem?_drop, List.getElem?_take, if_pos (by omega), List.getElem?_drop, ← hj j hjs]
        rw [show off + (i * Data.size α + j) = off + i * Data.size α + j by omega]
        simp
      · rw [if_neg hjs, List.getElem?_eq_none (by omega)]
    rw [e]; exact hr
  · rw [List.getElem?_take] at hu
    split at hu
    · rw [List.getElem?_drop] at hu
      have hadd : (⟨g, off, none⟩ : Addr).add j = ⟨g, off + j, none⟩ := by unfold Addr.add; split <;> simp_all
      rw [hadd, cell_of_row _ _ _ _ _ _ hw]
      simpa using hu
    · cases hu

/-- A literal slice of the call's own, read. -/
theorem Fr.lit {α : Type} [Data α] {w0 : Orig} {w : World} {S : Stab} {rs : List Res} (h : Fr w0 w S rs) (j : Nat) {b : Nat} {e : TypeId} {cs : List Value} (hj : rs[j]? = some (.box b e cs)) {l : List α} (hrd : RowRd S w cs l) {n : Nat} (hn : l.length = n) (hm : n ≤ maxLen) : Rd (· < w.heap.size) w (.slice (some ⟨b, 0, none⟩) n n) l := by
  subst hn
  have hb : w.heap[b]? = some (.cells cs.toArray e (0, 0)) := h.ok _ (List.mem_of_getElem? hj)
  refine slice_rd ⟨_, _, rfl, Nat.le_refl _, hm, .inr ⟨b, 0, cs.toArray, e, (0, 0), rfl, (Array.getElem?_eq_some_iff.1 hb).1, hb, fun i hi => ?_⟩⟩
  refine ⟨_, Data.up h.inb (hrd.2 i hi), fun q hq => ?_⟩
  rw [List.getElem?_take, if_pos hq, List.getElem?_drop]
  simp

section
variable {P : Program} {Q : Post} {a : Act} {w : World}

/-- Two results, the first a struct in a variable of the call's own. -/
theorem ret_cell2 {fn : Func} {R : Ending → World → Prop} {n : Nat} {env : Env} {o : Orig} {S : Stab} {rs : List Res} (t t2 ty j b : Nat) (e : TypeId) (vs : List Value) (us : Array Value) (v2 : Value) (ha : EnvOk n a env) (H : Fr o w S rs) (hj : rs[j]? = some (.box b e vs)) (k : R (.returned (.tuple #[.agg us, v2])) w)
    (hu : vs.toArray = us := by kernel_rfl) (hr : fn.results = #[.cell t ty, .tmp t2] := by kernel_rfl) (hv : getOp env [] (.tmp t) = some (.pointer (some ⟨b, 0, none⟩)) := by kernel_rfl) (hv2 : getOp env [] (.tmp t2) = some v2 := by kernel_rfl) (ht : ∃ fs, P.underlying ty = some (.struct fs)) (hsz : P.cellsOf ty = vs.length := by kernel_rfl) (hi : (P.info? ty).isSome = true := by kernel_rfl) : bodyPost P fn R .ret a w := by
  have hnil : chOk a [] := fun l hl => by simp at hl
  refine bodyPost_ret (v := .tuple #[.agg us, v2]) ?_ ha.2.1 k
  have h1 := getOp_ok ha hnil _ _ hv
  have h2 := getOp_ok ha hnil _ _ hv2
  simp only [Act.eval, Array.getD_eq_getD_getElem?] at h1 h2
  obtain ⟨fs, ht⟩ := ht
  have hb := box_row H j hj 0 (P.cellsOf ty) (us := us) (by rw [← hu, hsz]; simp) (by rw [List.drop_zero, hsz, List.take_length]; exact hu)
  have hl := evOp_len (P := P) (C := On w) (us := us) w ⟨rfl, rfl, rfl, Nat.le_refl _, fun _ _ => rfl⟩ ht ⟨fs, rfl⟩ hi hb
  have hl' : (loadVar ty ⟨b, 0, none⟩).run P w = .ok (.agg us) w := by simpa [Instr.loadAt, Instr.sureAddr] using hl
  simp [results, hr, h1, h2, asAddr, hl']

theorem append_none {t ty e : TypeId} {α : Type} [Data α] {bytes : Nat} (E : Elem P t e (Data.size α) bytes) {S : Stab} {v : Value} {l : List α} (h : Own S w e v l) (c : Nat) :
    (Builtin.append_ #[t, t] ty #[v, .slice none 0 c]).run P w = .ok v w := by
  obtain ⟨i, z, hi, _⟩ := E.info
  obtain ⟨xs, h1, _⟩ := h
  rcases h1.2 with ⟨rfl, _⟩ | ⟨g, cap, cur, rfl, _, _, hnc, _⟩
  · simp [Builtin.append_, run_underlying E.under, sizeOf, typeInfo, hi, Builtin.lenOf, Builtin.firstCells]
  · simp [Builtin.append_, run_underlying E.under, sizeOf, typeInfo, hi, Builtin.lenOf, Builtin.firstCells, hnc, storeCells]

/-- append(row, slice...): row number j takes what a slice holds that stands elsewhere. -/
theorem q_pushS {ops : Array Oper} {N : Act → World → Prop} {n : Nat} {env : Env} {t e : TypeId} {α : Type} [Data α] {bytes : Nat} {w0 : Orig} {S : Stab} {rs : List Res} (i d : Nat) (x y : Operand) (j : Nat) (v u : Value) (l : List α) (news : List α) (keep : List (Nat × Value)) (ha : EnvOk n a env) (H : Fr w0 w S rs)
    (E : Elem P t e (Data.size α) bytes)
    (hj : rs[j]? = some (.row e v l)) {T : Stab} (hrd : Rd T w u news)
    (hlen : l.length + news.length ≤ 2147483647) (hb : bytes ≤ 1000)
    (hflat : ∀ (cs : List Value) (x : α), Data.rd T w cs x → Data.rd S w cs x)
    (k : ∀ v' a' w', Fr w0 w' S (rs.set j (.row e v' (l ++ news))) → EnvOk n a' (keepEnv ((d, v') :: keep)) → w.grownBy w' v.ownBlock → N a' w')
    (h : opAt ops i = some (.call { callee := .builtin .append, args := #[x, y], argTypes := #[t, t] }, some d, none) := by kernel_rfl) (hx : getOp env [] x = some v := by kernel_rfl) (hy : getOp env [] y = some u := by kernel_rfl)
    (hk : KeepEq n d env keep := by delta KeepEq; kernel_rfl) : wpOp P ops Q i N a w := by
  refine op_at h fun o ho hdst => ?_
  have hnil : chOk a [] := fun l hl => by simp at hl
  have go : ∃ v' w', (Builtin.append_ #[t, t] o.type #[v, u]).run P w = .ok v' w' ∧ Fr w0 w' S (rs.set j (.row e v' (l ++ news))) ∧ w.grownBy w' v.ownBlock := by
    obtain ⟨p, c, rfl, hc, hm, h3⟩ := rd_slice hrd
    have hb1 : (l.length + news.length) * bytes ≤ 140737488355328 := by have := Nat.mul_le_mul hlen hb; omega
    rcases h3 with rfl | ⟨g, off, cur, ty, fz, rfl, hg, hw, hcell⟩
    · cases p with
      | none =>
        refine ⟨v, w, append_none E (H.ok _ (List.mem_of_getElem? hj)) c, ?_, ⟨rfl, rfl, rfl, Nat.le_refl _, fun _ _ _ => rfl⟩⟩
        rw [List.append_nil]
        rw [show rs.set j (.row e v l) = rs from by
          apply List.ext_getElem?
          intro q
          rw [List.getElem?_set]
          split
          · rename_i e1; subst e1; rw [hj]; rw [if_pos (List.getElem?_eq_some_iff.1 hj).1]
          · rfl]
        exact H
      | some ad => exact H.push (P := P) (ty := o.type) E j hj ad c ([] : List α) [] (RowRd.nil _ _) (fun j u hu => by simp at hu) (by simp only [maxLen, List.length_nil] at *; omega) (by simpa using hb1)
    · obtain ⟨cs, hrow, hcs⟩ := cells_row hw hcell E.pos
      have hrow' : RowRd S w cs news := ⟨hrow.1, fun i hi => hflat _ _ (hrow.2 i hi)⟩
      exact H.push (P := P) (ty := o.type) E j hj ⟨g, off, none⟩ c news cs hrow' hcs (by simp only [maxLen]; omega) hb1
  obtain ⟨v', w', hr, hf, hG⟩ := go
  unfold Oper.wp execOp
  simp only [ho, resolve, invoke, builtin, Sem.run_bind, Sem.run_pure, Result.andThen_ok, List.map_toArray, List.map_cons, List.map_nil, getOp_ok ha hnil _ _ hx, getOp_ok ha hnil _ _ hy, hr]
  exact k v' _ w' hf (env_put keep ha hdst hk) hG
end
end Go.Proofs.Ytbdgelipabndaaa
