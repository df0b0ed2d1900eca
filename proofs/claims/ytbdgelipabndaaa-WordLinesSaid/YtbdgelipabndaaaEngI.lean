/-
  What stands in memory throughout a region that draws its order. No program in sight.
-/
import Derived.Test.YtbdgelipabndaaaEngH
set_option linter.unusedSimpArgs false
set_option linter.unusedVariables false
namespace Go.Proofs.Ytbdgelipabndaaa
open Go.RowKit

/-- The blocks that were there when the call began, and the stable ones. -/
abbrev Old (o : Orig) (S : Stab) : Stab := fun k => k < o.w.heap.size ∨ S k

theorem Fr.old {o : Orig} {w : World} {S : Stab} {rs : List Res} (H : Fr o w S rs) {k : Nat} (h : Old o S k) : k < w.heap.size := by
  rcases h with h | h
  · exact Nat.lt_of_lt_of_le h H.below.size
  · exact H.inb k h
theorem Fr.getT {α : Type} [Data α] {o : Orig} {w : World} {S : Stab} {rs : List Res} (h : Fr o w S rs) (j : Nat) {v : Value} {a : α} (hj : rs[j]? = some (.ro v a)) : Rd (Old o S) w v a :=
  Rd.up (fun _ hk => .inr hk) (h.ok _ (List.mem_of_getElem? hj))
theorem Fr.argT {α : Type} [Data α] {o : Orig} {w : World} {S : Stab} {rs : List Res} (h : Fr o w S rs) {v : Value} {a : α} (ha : Rd (· < o.w.heap.size) o.w v a) : Rd (Old o S) w v a :=
  (ha.keep (Keeps.below h.below)).up fun _ hk => .inl hk

/-- Row j's block is no stable one. -/
theorem Fr.keeps {o : Orig} {w : World} {S : Stab} {rs : List Res} (H : Fr o w S rs) (m : Option Nat) (hm : m = none ∨ ∃ r ∈ rs, r.block = m) : ∀ w', But w m w' → Keeps (Old o S) w w' := by
  intro w' hw' k hk
  refine hw'.2 k (H.old hk) fun e => ?_
  rcases hm with rfl | ⟨r, hr, hb⟩
  · cases e
  · obtain ⟨h1, h2, h3⟩ := H.own r hr k (hb.trans e.symm)
    rcases hk with hk | hk
    · omega
    · exact h3 hk

theorem Fr.apart {o : Orig} {w : World} {S : Stab} {rs : List Res} (H : Fr o w S rs) (i j : Nat) (hij : i ≠ j) {ri rj : Res} (hi : rs[i]? = some ri) (hj : rs[j]? = some rj) {b : Nat} (hb : ri.block = some b) : rj.block ≠ some b := by
  intro hb'
  obtain ⟨hil, hie⟩ := List.getElem?_eq_some_iff.1 hi
  obtain ⟨hjl, hje⟩ := List.getElem?_eq_some_iff.1 hj
  have hn := H.nodup
  rw [List.Nodup, List.pairwise_filterMap, List.pairwise_iff_getElem] at hn
  rcases Nat.lt_or_gt_of_ne hij with hlt | hgt
  · exact hn i j hil hjl hlt b (by rw [hie]; exact hb) b (by rw [hje]; exact hb') rfl
  · exact hn j i hjl hil hgt b (by rw [hje]; exact hb') b (by rw [hie]; exact hb) rfl

/-- The cells of an element, in every world of a class that keeps the blocks. -/
theorem cells_atC {α : Type} [Data α] {T : Stab} {C : World → Prop} {w : World} {v : Value} {l : List α} (hC : ∀ w', C w' → Keeps T w w') (h : Rd T w v l) {i : Int} (h0 : 0 ≤ i) (h1 : i < (l.length : Int)) (d : α) :
    ∃ cs, Data.rd T w cs (l.getD i.toNat d) ∧ ∀ j, j < Data.size α → ∀ w', C w' → w'.cell? ⟨hdB v, hdO v + i.toNat * Data.size α + j, none⟩ = cs[j]? := by
  obtain ⟨p, c, rfl, _, _, h3⟩ := rd_slice h
  rcases h3 with rfl | ⟨g, off, cur, t, fz, rfl, hg, hw, hc⟩
  · simp at h1; omega
  · have hi : i.toNat < l.length := by omega
    obtain ⟨cs, hr, hj⟩ := hc i.toNat hi
    refine ⟨cs, ?_, fun j hj' w' hw' => ?_⟩
    · rw [List.getD_eq_getElem?_getD, List.getElem?_eq_getElem hi]; exact hr
    · show w'.cell? ⟨g, off + i.toNat * Data.size α + j, none⟩ = _
      rw [cell_of_row w' g _ cur t fz ((hC w' hw' g hg).trans hw)]
      exact hj j hj'
theorem cell_flatC {α : Type} [Flat α] {T : Stab} {C : World → Prop} {w : World} {v : Value} {l : List α} (hC : ∀ w', C w' → Keeps T w w') (h : Rd T w v l) {i : Int} (h0 : 0 ≤ i) (h1 : i < (l.length : Int)) (d : α) (j : Nat) {u : Value}
    (hj : decide (j < Data.size α) = true := by kernel_rfl) (hu : (Flat.enc (l.getD i.toNat d))[j]? = some u := by kernel_rfl) : CellOk C (hdB v) (hdO v + i.toNat * Data.size α + j) u := by
  obtain ⟨cs, hr, hc⟩ := cells_atC hC h h0 h1 d
  intro w' hw'
  rw [hc j (of_decide_eq_true hj) w' hw', Flat.fix hr, hu]
theorem row_flatC {α : Type} [Flat α] {T : Stab} {C : World → Prop} {w : World} {v : Value} {l : List α} (hC : ∀ w', C w' → Keeps T w w') (h : Rd T w v l) {i : Int} (h0 : 0 ≤ i) (h1 : i < (l.length : Int)) (d : α) {n : Nat} {us : Array Value}
    (hn : Data.size α = n := by kernel_rfl) (hu : (Flat.enc (l.getD i.toNat d)).toArray = us := by kernel_rfl) : RowOk C (hdB v) (hdO v + i.toNat * Data.size α) n us := by
  obtain ⟨cs, hr, hc⟩ := cells_atC hC h h0 h1 d
  subst hn; subst hu
  have hcs := Flat.fix hr
  refine ⟨by simp only [List.size_toArray]; rw [← hcs]; exact Data.len hr, fun w' hw' j hj => ?_⟩
  rw [hc j hj w' hw', hcs]
  simp
theorem cell_sliceC {α : Type} [Data α] {T : Stab} {C : World → Prop} {w : World} {v : Value} {l : List (List α)} (hC : ∀ w', C w' → Keeps T w w') (h : Rd T w v l) (i : Int) :
    ∃ u, (0 ≤ i → i < (l.length : Int) → CellOk C (hdB v) (hdO v + i.toNat * 1) u) ∧ (0 ≤ i → i < (l.length : Int) → Rd T w u (l.getD i.toNat [])) := by
  by_cases hb : 0 ≤ i ∧ i < (l.length : Int)
  · obtain ⟨cs, ⟨u, rfl, hu⟩, hc⟩ := cells_atC hC h hb.1 hb.2 []
    refine ⟨u, fun _ _ w' hw' => ?_, fun _ _ => slice_rd hu⟩
    exact hc 0 (show 0 < 1 by decide) w' hw'
  · exact ⟨undef, fun a b => (hb ⟨a, b⟩).elim, fun a b => (hb ⟨a, b⟩).elim⟩

theorem box_atC {o : Orig} {w : World} {S : Stab} {rs : List Res} (H : Fr o w S rs) (m : Option Nat) (j : Nat) {b : Nat} {t : TypeId} {vs : List Value} (hj : rs[j]? = some (.box b t vs)) (hm : m ≠ some b) :
    ∀ w', But w m w' → w'.heap[b]? = some (.cells vs.toArray t (0, 0)) := by
  intro w' hw'
  have h : w.heap[b]? = some (.cells vs.toArray t (0, 0)) := H.ok _ (List.mem_of_getElem? hj)
  rw [hw'.2 b (H.own _ (List.mem_of_getElem? hj) b rfl).2.1 (fun e => hm e.symm)]
  exact h
theorem box_cellC {C : World → Prop} {b : Nat} {t : TypeId} {vs : List Value} (hb : ∀ w', C w' → w'.heap[b]? = some (.cells vs.toArray t (0, 0))) (i : Nat) {u : Value} (hu : vs[i]? = some u := by kernel_rfl) : CellOk C b i u := by
  intro w' hw'
  rw [cell_of_row w' b i _ t _ (hb w' hw')]
  simpa using hu
theorem box_rowC {C : World → Prop} {b : Nat} {t : TypeId} {vs : List Value} (hb : ∀ w', C w' → w'.heap[b]? = some (.cells vs.toArray t (0, 0))) (i n : Nat) {us : Array Value}
    (hn : us.size = n := by kernel_rfl) (hu : ((vs.drop i).take n).toArray = us := by kernel_rfl) : RowOk C b i n us := by
  refine ⟨hn, fun w' hw' k hk => ?_⟩
  rw [cell_of_row w' b (i + k) _ t _ (hb w' hw'), ← hu]
  simp [List.getElem?_take, hk]
theorem Fr.drawn {o : Orig} {w : World} {S : Stab} {rs : List Res} (H : Fr o w S rs) : Fr o { w with drawn := w.drawn + 1 } S rs := H.on ⟨rfl, rfl, rfl, Nat.le_refl _, fun _ _ => rfl⟩

section
variable {P : Program} {Q : Exit → Act → World → Prop} {a : Act} {w : World}
theorem m_end {ops : Array Oper} {D : World → Prop} {hd : List Nat} {listed : Array Bool} (h : Q .normal a w) (hr : Region.ready .any ops listed = [] := by kernel_rfl) : Mix P ops (Calm Q) D hd 0 listed a w := ⟨hr, h⟩
/-- One quiet operation by itself. -/
theorem q_one {ops : Array Oper} {N : Act → World → Prop} {Q : Exit → Act → World → Prop} {n : Nat} {env : Env} {w0 : Orig} {S : Stab} {rs : List Res} (i : Nat) (orc : List (Nat × Value)) (keep : List (Nat × Value)) (pr : Prop) (ha : EnvOk n a env) (H : Fr w0 w S rs) (hp : pr)
    (k : ∀ a' w', Fr w0 w' S rs → EnvOk n a' (keepEnv keep) → Below w.heap.size w w' → N a' w')
    (h : RunEq P (On w) n ops orc ([i].filterMap fun i => ops[i]?) env keep pr := by delta RunEq; kernel_rfl) : wpOp P ops Q i N a w := by
  obtain ⟨env', e1, e2⟩ := runOk_of h
  have hq := evRun_ok ha e1 hp (Q := fun a' => EnvOk n a' env') (fun a' h => h)
  have hq' : qOp P ops (On w) i (fun a' => EnvOk n a' env') a := by
    unfold qOp
    cases ho : ops[i]? with
    | none => simp only [List.filterMap_cons, ho, List.filterMap_nil, wpQuiet] at hq; exact hq
    | some o =>
      simp only [List.filterMap_cons, ho, List.filterMap_nil, wpQuiet] at hq
      exact hq
  exact wpOp_of_qOp (C := On w) ⟨rfl, rfl, rfl, Nat.le_refl _, fun _ _ => rfl⟩ (fun a' w' hw' h => k a' w' (H.on hw') (keep_ok keep h e2) hw') hq'
end

section
variable {P : Program} {Q : Post} {a : Act} {w : World}
theorem ret_three {fn : Func} {R : Ending → World → Prop} {n : Nat} {env : Env} (t1 t2 t3 : Nat) (v1 v2 v3 : Value) (ha : EnvOk n a env) (k : R (.returned (.tuple #[v1, v2, v3])) w) (hr : fn.results = #[.tmp t1, .tmp t2, .tmp t3] := by kernel_rfl)
    (hv1 : getOp env [] (.tmp t1) = some v1 := by kernel_rfl) (hv2 : getOp env [] (.tmp t2) = some v2 := by kernel_rfl) (hv3 : getOp env [] (.tmp t3) = some v3 := by kernel_rfl) : bodyPost P fn R .ret a w := by
  have hnil : chOk a [] := fun l hl => by simp at hl
  refine bodyPost_ret (v := .tuple #[v1, v2, v3]) ?_ ha.2.1 k
  have h1 := getOp_ok ha hnil _ _ hv1
  have h2 := getOp_ok ha hnil _ _ hv2
  have h3 := getOp_ok ha hnil _ _ hv3
  simp only [Act.eval, Array.getD_eq_getD_getElem?] at h1 h2 h3
  simp [results, hr, h1, h2, h3]

/-- A result that lies in a variable of the call's own: a struct. -/
theorem ret_cell {fn : Func} {R : Ending → World → Prop} {n : Nat} {env : Env} {o : Orig} {S : Stab} {rs : List Res} (t ty j b : Nat) (e : TypeId) (vs : List Value) (us : Array Value) (ha : EnvOk n a env) (H : Fr o w S rs) (hj : rs[j]? = some (.box b e vs)) (k : R (.returned (.agg us)) w)
    (hu : vs.toArray = us := by kernel_rfl) (hr : fn.results = #[.cell t ty] := by kernel_rfl) (hv : getOp env [] (.tmp t) = some (.pointer (some ⟨b, 0, none⟩)) := by kernel_rfl) (ht : ∃ fs, P.underlying ty = some (.struct fs)) (hsz : P.cellsOf ty = vs.length := by kernel_rfl) (hi : (P.info? ty).isSome = true := by kernel_rfl) : bodyPost P fn R .ret a w := by
  have hnil : chOk a [] := fun l hl => by simp at hl
  refine bodyPost_ret (v := .agg us) ?_ ha.2.1 k
  have h1 := getOp_ok ha hnil _ _ hv
  simp only [Act.eval, Array.getD_eq_getD_getElem?] at h1
  obtain ⟨fs, ht⟩ := ht
  have hb := box_row H j hj 0 (P.cellsOf ty) (us := us) (by rw [← hu, hsz]; simp) (by rw [List.drop_zero, hsz, List.take_length]; exact hu)
  have hl := evOp_len (P := P) (C := On w) (us := us) w ⟨rfl, rfl, rfl, Nat.le_refl _, fun _ _ => rfl⟩ ht ⟨fs, rfl⟩ hi hb
  have hl' : (loadVar ty ⟨b, 0, none⟩).run P w = .ok (.agg us) w := by simpa [Instr.loadAt, Instr.sureAddr] using hl
  simp [results, hr, h1, asAddr, hl']
end

/-- A part of a slice. -/
theorem reslice {P : Program} {α : Type} [Data α] {S : Stab} {w : World} {v : Value} {l0 : List α} (h : Rd S w v l0) (lo hi : Nat) (h1 : lo ≤ hi) (h2 : hi ≤ l0.length) (t : TypeId) (ht : P.underlying t = some (.slice (P.elem t))) (hs : P.cellsOf (P.elem t) = Data.size α) (hi0 : (P.info? (P.elem t)).isSome = true) :
    ∃ u, (∀ (k k' : IntKind) (w' : World), (Instr.sliceAt t v (some (.int k lo)) (some (.int k' hi)) none).run P w' = .ok u w') ∧ (hi = l0.length → ∀ (k : IntKind) (w' : World), (Instr.sliceAt t v (some (.int k lo)) none none).run P w' = .ok u w') ∧ Rd S w u ((l0.drop lo).take (hi - lo)) := by
  obtain ⟨p, c, rfl, hc, hm, h3⟩ := rd_slice h
  obtain ⟨inf, hinf⟩ := Option.isSome_iff_exists.1 hi0
  have hsz : inf.size = Data.size α := by rw [← hs]; simp [Program.cellsOf, hinf]
  have hlen : ((l0.drop lo).take (hi - lo)).length = hi - lo := by rw [List.length_take, List.length_drop]; omega
  refine ⟨sliced p lo hi c (Data.size α), fun k k' w' => ?_, fun he k w' => ?_, slice_rd ?_⟩
  · rw [run_sliceAt_slice w' t _ _ _ _ ht, run_slice_lh w' t p l0.length c ht k k' lo hi (by omega) (by omega) (by omega), run_sizeOf w' hinf, hs]
    rfl
  · rw [run_sliceAt_slice w' t _ _ _ _ ht, run_slice_l w' t p l0.length c ht k lo (by omega) (by omega), run_sizeOf w' hinf, hs, he]
    rfl
  · refine ⟨_, c - lo, by rw [hlen]; rfl, by rw [hlen]; omega, by omega, ?_⟩
    by_cases he : hi = lo
    · left; exact List.eq_nil_of_length_eq_zero (by rw [hlen]; omega)
    · right
      rcases h3 with rfl | ⟨g, off, cur, ty, fz, rfl, hg, hw, hcell⟩
      · simp at h2; omega
      · refine ⟨g, off + lo * Data.size α, cur, ty, fz, ?_, hg, hw, fun i hi' => ?_⟩
        · rw [if_neg (by omega)]
          simp [Addr.add]
        · rw [hlen] at hi'
          obtain ⟨cs, hr, hj⟩ := hcell (lo + i) (by omega)
          refine ⟨cs, ?_, fun j hj' => ?_⟩
          · rw [List.getElem_take, List.getElem_drop]; exact hr
          · have := hj j hj'
            rw [Nat.add_mul] at this
            rw [show off + lo * Data.size α + i * Data.size α + j = off + (lo * Data.size α + i * Data.size α) + j by omega]
            exact this
end Go.Proofs.Ytbdgelipabndaaa
