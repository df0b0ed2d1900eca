/-
  Texts joined by program: PairB, EngT, WalkP2, WalkG1, WalkG2, WalkG5, WalkG3, WalkG4, WalkG6, WalkG7.
-/
import Derived.Test.YtahonnlgkmimlaaProg
import Derived.Test.YtahonnlgkmimlaaJPairClasses3
set_option linter.unusedSimpArgs false
set_option linter.unusedVariables false
namespace Go.Proofs.Ytahonnlgkmimlaa
open Go.RowKit

abbrev dk : Lk := (0, (0, 0))
def endsK (l : List Lk) : List Int := l.flatMap fun x => [x.1, x.2.1]
def vertsL (l : List Lk) : List Int := Lib.compact (sortL (endsK l))
def WfL (l : List Lk) : Prop := ∀ i, 0 ≤ i → i < (l.length : Int) → wfI (lkA l i) ∧ wfI (lkB l i) ∧ wfI (lkI l i)
theorem endsK_len (l : List Lk) : (endsK l).length = 2 * l.length := by
  unfold endsK
  induction l with
  | nil => rfl
  | cons x l ih => rw [List.flatMap_cons, List.length_append, ih]; simp; omega
theorem take_snocK {l : List Lk} {i : Int} (h0 : 0 ≤ i) (h1 : i < (l.length : Int)) : l.take (i + 1).toNat = l.take i.toNat ++ [l.getD i.toNat (0, (0, 0))] := take_snocD h0 h1
theorem endsK_snoc {l : List Lk} {i : Int} (h0 : 0 ≤ i) (h1 : i < (l.length : Int)) : endsK (l.take (i + 1).toNat) = endsK (l.take i.toNat) ++ [lkA l i, lkB l i] := by
  rw [take_snocK h0 h1]; unfold endsK; rw [List.flatMap_append]; simp [lkA, lkB]
-- ---- counts
def cntO (L : List Int) (v : Int) : Option Int := if v ∈ L then some ((L.count v : Nat) : Int) else none
theorem cntO_get (L : List Int) (v : Int) : (cntO L v).getD 0 = ((L.count v : Nat) : Int) := by
  unfold cntO; split
  · rfl
  · rename_i h; rw [List.count_eq_zero.2 h]; rfl
theorem cnt_put {m : List (Int × Int)} {L : List Int} (h : ∀ v, lastAt m v = cntO L v) (x : Int) : ∀ v, lastAt (m ++ [(x, (lastAt m x).getD 0 + 1)]) v = cntO (L ++ [x]) v := by
  intro v
  rw [lastAt_snoc, h x, cntO_get]
  by_cases e : x = v
  · subst e
    show (if x = x then _ else _) = _
    rw [if_pos rfl]
    unfold cntO
    rw [if_pos (by simp), List.count_append, List.count_singleton]
    simp
  · show (if x = v then _ else _) = _
    rw [if_neg e, h v]
    unfold cntO
    rw [List.count_append, List.count_singleton]
    have e2 : (x == v) = false := by simpa using e
    simp [Ne.symm e, e2]
theorem cnt_bd {m : List (Int × Int)} {L : List Int} (h : ∀ v, lastAt m v = cntO L v) (x : Int) : 0 ≤ (lastAt m x).getD 0 ∧ (lastAt m x).getD 0 ≤ (L.length : Int) := by
  rw [h x, cntO_get]
  have := List.count_le_length (a := x) (l := L)
  omega
def ringsB (l : List Lk) : Bool := decide (∀ v ∈ endsK l, (endsK l).count v = 2)
theorem rings_F {m : List (Int × Int)} {l : List Lk} (h : ∀ v, lastAt m v = cntO (endsK l) v) {k c : Int} (hk : lastAt m k = some c) (hc : c ≠ 2) : ringsB l = false := by
  refine decide_eq_false fun q => hc ?_
  rw [h k] at hk
  unfold cntO at hk
  split at hk
  · rename_i hm; cases hk; rw [q k hm]; rfl
  · cases hk
theorem rings_T {m : List (Int × Int)} {l : List Lk} (h : ∀ v, lastAt m v = cntO (endsK l) v) (hd : ∀ k c, lastAt m k = some c → c = 2) : ringsB l = true := by
  refine decide_eq_true fun v hv => ?_
  have := hd v ((endsK l).count v : Nat) (by rw [h v]; unfold cntO; rw [if_pos hv])
  omega
-- ---- the graph
def okLk (l : List Lk) (i : Nat) : Prop := (∀ j, j < i → (l.getD j (0, (0, 0))).2.2 ≠ (l.getD i (0, (0, 0))).2.2) ∧ 0 ≤ (l.getD i (0, (0, 0))).1 ∧ 0 ≤ (l.getD i (0, (0, 0))).2.1 ∧ (l.getD i (0, (0, 0))).1 ≠ (l.getD i (0, (0, 0))).2.1 ∧ max (l.getD i (0, (0, 0))).1 (l.getD i (0, (0, 0))).2.1 < 1024
instance (l : List Lk) (i : Nat) : Decidable (okLk l i) := by unfold okLk; infer_instance
def okWh (l : List Lk) : Prop := ∀ i, i < l.length → okLk l i
instance (l : List Lk) : Decidable (okWh l) := by unfold okWh; infer_instance
def nK (l : List Lk) : Int := l.foldl (fun n x => max (max n (x.1 + 1)) (x.2.1 + 1)) 0
def eK (l : List Lk) : List (Int × Int) := l.map fun x => (x.1, x.2.1)
theorem nK_snoc {l : List Lk} {i : Int} (h0 : 0 ≤ i) (h1 : i < (l.length : Int)) : nK (l.take (i + 1).toNat) = max (max (nK (l.take i.toNat)) ((l.getD i.toNat (0, (0, 0))).1 + 1)) ((l.getD i.toNat (0, (0, 0))).2.1 + 1) := by
  rw [take_snocK h0 h1]; unfold nK; rw [List.foldl_append]; rfl
theorem eK_snoc {l : List Lk} {i : Int} (h0 : 0 ≤ i) (h1 : i < (l.length : Int)) : eK (l.take (i + 1).toNat) = eK (l.take i.toNat) ++ [((l.getD i.toNat (0, (0, 0))).1, (l.getD i.toNat (0, (0, 0))).2.1)] := by
  rw [take_snocK h0 h1]; unfold eK; rw [List.map_append]; rfl
def idsK (l : List Lk) : List Int := l.map fun x => x.2.2
theorem mem_idsK {l : List Lk} {i : Nat} (hi : i ≤ l.length) {x : Int} : x ∈ idsK (l.take i) ↔ ∃ j, j < i ∧ (l.getD j (0, (0, 0))).2.2 = x := by
  unfold idsK
  rw [List.mem_map]
  constructor
  · rintro ⟨y, hy, rfl⟩
    obtain ⟨j, hj, rfl⟩ := List.getElem_of_mem hy
    rw [List.length_take] at hj
    refine ⟨j, by omega, ?_⟩
    rw [List.getElem_take, List.getD_eq_getElem?_getD, List.getElem?_eq_getElem (by omega)]; rfl
  · rintro ⟨j, hj, rfl⟩
    refine ⟨l.getD j (0, (0, 0)), ?_, rfl⟩
    rw [List.getD_eq_getElem?_getD, List.getElem?_eq_getElem (by omega)]
    exact List.mem_iff_getElem.2 ⟨j, by rw [List.length_take]; omega, by rw [List.getElem_take]; rfl⟩
theorem idsK_snoc {l : List Lk} {i : Int} (h0 : 0 ≤ i) (h1 : i < (l.length : Int)) : idsK (l.take (i + 1).toNat) = idsK (l.take i.toNat) ++ [(l.getD i.toNat (0, (0, 0))).2.2] := by
  rw [take_snocK h0 h1]; unfold idsK; rw [List.map_append]; rfl
/-- What package pair makes of links: a graph, a part of it, whether these are right. -/
def wholeR (l : List Lk) : ((Int × List (Int × Int)) × (List Int × List Int)) × Bool :=
  if okWh l then ((nK l, eK l), (spanE (nK l) (eK l) (upto (l.length : Int))).1, decide ((spanE (nK l) (eK l) (upto (l.length : Int))).2 = 0)) |> fun x => ((x.1, x.2.1), x.2.2) else (((0, []), ([], [])), false)
theorem wholeR_bad {l : List Lk} {i : Nat} (hi : i < l.length) (h : ¬ okLk l i) : wholeR l = (((0, []), ([], [])), false) := by unfold wholeR; rw [if_neg fun q => h (q i hi)]
theorem wholeR_ok {l : List Lk} (h : okWh l) : wholeR l = (((nK l, eK l), (spanE (nK l) (eK l) (upto (l.length : Int))).1), decide ((spanE (nK l) (eK l) (upto (l.length : Int))).2 = 0)) := by unfold wholeR; rw [if_pos h]
theorem put_ids {m : List (Int × Int)} {L : List Int} (h : ∀ v, (lastAt m v).isSome = true ↔ v ∈ L) (x y : Int) : ∀ v, (lastAt (m ++ [(x, y)]) v).isSome = true ↔ v ∈ L ++ [x] := by
  intro v
  rw [lastAt_snoc]
  show ((if x = v then some y else lastAt m v)).isSome = true ↔ _
  by_cases e : x = v
  · rw [if_pos e]; simp [e]
  · rw [if_neg e, h v]; simp [Ne.symm e]
/-- Whether links are right. -/
def rightK (l : List Lk) : Bool := (wholeR l).2 && solidB (wholeR l).1.1.1 (wholeR l).1.1.2 (wholeR l).1.2.1 (wholeR l).1.2.2
theorem nK_bd {l : List Lk} (h : okWh l) : ∀ k : Nat, k ≤ l.length → 0 ≤ nK (l.take k) ∧ nK (l.take k) ≤ 1024
  | 0, _ => by simp [nK]
  | k + 1, hk => by
    have ih := nK_bd h k (by omega)
    have e := nK_snoc (l := l) (i := (k : Int)) (by omega) (by omega)
    rw [show ((k : Int) + 1).toNat = k + 1 by omega, Int.toNat_natCast] at e
    have := h k (by omega)
    unfold okLk at this
    rw [e]; omega
theorem range_step {m : List (Int × Int)} {left left' : Lit → Bool} {k0 c0 : Int} (hl : ∀ z, left' (.int .i64 z) = (left (.int .i64 z) && !decide (z = k0))) (hc : lastAt m k0 = some c0) (h : ∀ k c, lastAt m k = some c → left (.int .i64 k) = false → c = 2) (h2 : c0 = 2) :
    ∀ k c, lastAt m k = some c → left' (.int .i64 k) = false → c = 2 := by
  intro k c hk hf
  by_cases q : k = k0
  · subst q; rw [hc] at hk; cases hk; exact h2
  · rw [hl] at hf; exact h k c hk (by simpa [q] using hf)
theorem nK_bd2 {l : List Lk} {i : Int} (hi : i ≤ (l.length : Int)) (h : ∀ j : Nat, (j : Int) < i → okLk l j) : 0 ≤ nK (l.take i.toNat) ∧ nK (l.take i.toNat) ≤ 1024 := by
  have key : ∀ k : Nat, (k : Int) ≤ i → 0 ≤ nK (l.take k) ∧ nK (l.take k) ≤ 1024 := by
    intro k
    induction k with
    | zero => intro _; simp [nK]
    | succ k ih =>
      intro hk
      have ih := ih (by omega)
      have e := nK_snoc (l := l) (i := (k : Int)) (by omega) (by omega)
      rw [show ((k : Int) + 1).toNat = k + 1 by omega, Int.toNat_natCast] at e
      have := h k (by omega)
      unfold okLk at this
      rw [e]; omega
  by_cases h0 : 0 ≤ i
  · exact key i.toNat (by omega)
  · rw [show i.toNat = 0 by omega]; simp [nK]
theorem okLk_iff {l : List Lk} {m : List (Int × Int)} {i : Int} (hi : 0 ≤ i ∧ i < (l.length : Int)) (hid : ∀ x, (lastAt m x).isSome = true ↔ x ∈ idsK (l.take i.toNat)) :
    okLk l i.toNat ↔ ¬ (lastAt m (l.getD i.toNat (0, (0, 0))).2.2).isSome = true ∧ 0 ≤ (l.getD i.toNat (0, (0, 0))).1 ∧ 0 ≤ (l.getD i.toNat (0, (0, 0))).2.1 ∧ (l.getD i.toNat (0, (0, 0))).1 ≠ (l.getD i.toNat (0, (0, 0))).2.1 ∧ max (l.getD i.toNat (0, (0, 0))).1 (l.getD i.toNat (0, (0, 0))).2.1 < 1024 := by
  unfold okLk
  rw [hid, mem_idsK (by omega)]
  constructor
  · rintro ⟨a, b⟩; exact ⟨fun ⟨j, hj, e⟩ => a j hj e, b⟩
  · rintro ⟨a, b⟩; exact ⟨fun j hj e => a ⟨j, hj, e⟩, b⟩
theorem rd_gp {α : Type} [Data α] {S : Stab} {w : World} {n : Int} {v : Value} {l : List α} (h : Rd S w v l) : Rd S w (.agg #[.int .i64 n, v]) (n, l) :=
  ⟨[.int .i64 n, v], ⟨[.int .i64 n], [v], rfl, rfl, ⟨v, rfl, rd_slice h⟩⟩, rfl⟩
theorem gp_rd {α : Type} [Data α] {S : Stab} {w : World} {v : Value} {x : Int × List α} (h : Rd S w v x) : ∃ e, v = .agg #[.int .i64 x.1, e] ∧ Rd S w e x.2 := by
  obtain ⟨cs, ⟨c1, c2, rfl, rfl, e, rfl, h2⟩, rfl⟩ := h
  exact ⟨e, rfl, slice_rd h2⟩
theorem whole_bd (l : List Lk) : 0 ≤ (wholeR l).1.1.1 ∧ (wholeR l).1.1.1 ≤ 1024 := by
  by_cases h : okWh l
  · rw [wholeR_ok h]; have := nK_bd h l.length (Nat.le_refl _); rw [List.take_length] at this; exact this
  · unfold wholeR; rw [if_neg h]; simp
theorem whole_len {l : List Lk} (hs : l.length ≤ 100000) : (wholeR l).1.1.2.length ≤ 100000 := by
  by_cases h : okWh l
  · rw [wholeR_ok h]; simpa [eK] using hs
  · unfold wholeR; rw [if_neg h]; simp
theorem verts_len (l : List Lk) : (vertsL l).length ≤ 2 * l.length := by
  unfold vertsL
  have h := compact_sort (endsK l)
  have := nodup_le (asc_nodup h.1) (fun x hx => (h.2 x).1 hx)
  rw [endsK_len] at this; exact this
/-- The classes of two vertices, or nothing. -/
def pclassesE (l : List Lk) (x y : Int) : List (List Int) := if ((decide (x = y) || !hasB (vertsL l) x) || !hasB (vertsL l) y) || !rightK l then [] else classesL l x y
theorem pclassesE_ok {l : List Lk} {x y : Int} (h : ((¬ x = y ∧ hasB (vertsL l) x = true) ∧ hasB (vertsL l) y = true) ∧ rightK l = true) : pclassesE l x y = classesL l x y := by
  unfold pclassesE
  rw [if_neg]
  intro q
  simp only [Bool.or_eq_true, decide_eq_true_eq, Bool.not_eq_true'] at q
  simp [h.1.1.1, h.1.1.2, h.1.2, h.2] at q
theorem pclassesE_no {l : List Lk} {x y : Int} (h : ((x = y ∨ hasB (vertsL l) x = false) ∨ hasB (vertsL l) y = false) ∨ rightK l = false) : pclassesE l x y = [] := by
  unfold pclassesE
  rw [if_pos]
  simp only [Bool.or_eq_true, decide_eq_true_eq, Bool.not_eq_true']
  exact h
end Go.Proofs.Ytahonnlgkmimlaa

set_option linter.unusedSimpArgs false
set_option linter.unusedVariables false
namespace Go.Proofs.Ytahonnlgkmimlaa
open Go.RowKit

theorem max3_ok {P : Program} {ats : Array TypeId} {k : IntKind} {a b c : Int} (ty : TypeId) (w : World) : (Builtin.max_ ats ty [.int k a, .int k b, .int k c].toArray).run P w = .ok (.int k (max (max a b) c)) w := by
  have e : (if b > a then b else a) = max a b := by split <;> omega
  have e2 : (if c > max a b then c else max a b) = max (max a b) c := by split <;> omega
  simp [Builtin.max_, Builtin.max2, e, e2]
section
variable {P : Program} {Q : Post} {a : Act} {w : World}
/-- Three results, the first two structs in variables of the call's own. -/
theorem ret_cells3 {fn : Func} {R : Ending → World → Prop} {n : Nat} {env : Env} {o : Orig} {S : Stab} {rs : List Res} (t t' t2 ty ty' j j' b b' : Nat) (e e' : TypeId) (vs vs' : List Value) (us us' : Array Value) (v2 : Value) (ha : EnvOk n a env) (H : Fr o w S rs) (hj : rs[j]? = some (.box b e vs)) (hj' : rs[j']? = some (.box b' e' vs'))
    (k : R (.returned (.tuple #[.agg us, .agg us', v2])) w)
    (hu : vs.toArray = us := by kernel_rfl) (hu' : vs'.toArray = us' := by kernel_rfl) (hr : fn.results = #[.cell t ty, .cell t' ty', .tmp t2] := by kernel_rfl) (hv : getOp env [] (.tmp t) = some (.pointer (some ⟨b, 0, none⟩)) := by kernel_rfl) (hv' : getOp env [] (.tmp t') = some (.pointer (some ⟨b', 0, none⟩)) := by kernel_rfl) (hv2 : getOp env [] (.tmp t2) = some v2 := by kernel_rfl)
    (ht : ∃ fs, P.underlying ty = some (.struct fs)) (ht' : ∃ fs, P.underlying ty' = some (.struct fs)) (hsz : P.cellsOf ty = vs.length := by kernel_rfl) (hsz' : P.cellsOf ty' = vs'.length := by kernel_rfl) (hi : (P.info? ty).isSome = true := by kernel_rfl) (hi' : (P.info? ty').isSome = true := by kernel_rfl) : bodyPost P fn R .ret a w := by
  have hnil : chOk a [] := fun l hl => by simp at hl
  refine bodyPost_ret (v := .tuple #[.agg us, .agg us', v2]) ?_ ha.2.1 k
  have h1 := getOp_ok ha hnil _ _ hv
  have h1' := getOp_ok ha hnil _ _ hv'
  have h2 := getOp_ok ha hnil _ _ hv2
  simp only [Act.eval, Array.getD_eq_getD_getElem?] at h1 h1' h2
  obtain ⟨fs, ht⟩ := ht
  obtain ⟨fs', ht'⟩ := ht'
  have hb := box_row H j hj 0 (P.cellsOf ty) (us := us) (by rw [← hu, hsz]; simp) (by rw [List.drop_zero, hsz, List.take_length]; exact hu)
  have hl := evOp_len (P := P) (C := On w) (us := us) w ⟨rfl, rfl, rfl, Nat.le_refl _, fun _ _ => rfl⟩ ht ⟨fs, rfl⟩ hi hb
  have hl' : (loadVar ty ⟨b, 0, none⟩).run P w = .ok (.agg us) w := by simpa [Instr.loadAt, Instr.sureAddr] using hl
  have hb2 := box_row H j' hj' 0 (P.cellsOf ty') (us := us') (by rw [← hu', hsz']; simp) (by rw [List.drop_zero, hsz', List.take_length]; exact hu')
  have hl2 := evOp_len (P := P) (C := On w) (us := us') w ⟨rfl, rfl, rfl, Nat.le_refl _, fun _ _ => rfl⟩ ht' ⟨fs', rfl⟩ hi' hb2
  have hl2' : (loadVar ty' ⟨b', 0, none⟩).run P w = .ok (.agg us') w := by simpa [Instr.loadAt, Instr.sureAddr] using hl2
  simp [results, hr, h1, h1', h2, asAddr, hl', hl2']
end

-- ---- several variables are written in a region that draws its order
def ButL (w : World) (ms : List Nat) (w' : World) : Prop := w.heap.size ≤ w'.heap.size ∧ ∀ k, k < w.heap.size → k ∉ ms → w'.heap[k]? = w.heap[k]?
theorem ButL.drew (w : World) (ms : List Nat) : ButL w ms { w with drawn := w.drawn + 1 } := ⟨Nat.le_refl _, fun _ _ _ => rfl⟩
theorem ButL.grown {w w1 w2 : World} {ms : List Nat} {row : Option Nat} (h : ButL w ms w1) (hg : w1.grownBy w2 row) (hr : ∀ b, row = some b → b ∈ ms ∨ w.heap.size ≤ b) : ButL w ms w2 := by
  refine ⟨Nat.le_trans h.1 hg.size, fun k hk hm => ?_⟩
  rw [hg.block k (Nat.lt_of_lt_of_le hk h.1) (fun e => by
    rcases hr k e.symm with h1 | h1
    · exact hm h1
    · omega)]
  exact h.2 k hk hm
theorem ButL.below {w w1 w2 : World} {ms : List Nat} (h : ButL w ms w1) (hb : Below w1.heap.size w1 w2) : ButL w ms w2 :=
  ⟨Nat.le_trans h.1 hb.size, fun k hk hm => (hb.block k (Nat.lt_of_lt_of_le hk h.1)).trans (h.2 k hk hm)⟩
theorem Fr.keepsL {o : Orig} {w : World} {S : Stab} {rs : List Res} (H : Fr o w S rs) (ms : List Nat) (hm : ∀ b ∈ ms, ∃ r ∈ rs, r.block = some b) : ∀ w', ButL w ms w' → Keeps (Old o S) w w' := by
  intro w' hw' k hk
  refine hw'.2 k (H.old hk) fun e => ?_
  obtain ⟨r, hr, hb⟩ := hm k e
  obtain ⟨h1, h2, h3⟩ := H.own r hr k hb
  rcases hk with hk | hk
  · omega
  · exact h3 hk
theorem Fr.in_ {rs : List Res} {b : Nat} (j : Nat) {r : Res} (h : rs[j]? = some r) (hb : r.block = some b) : ∃ r ∈ rs, r.block = some b := ⟨r, List.mem_of_getElem? h, hb⟩
theorem box_atL {o : Orig} {w : World} {S : Stab} {rs : List Res} (H : Fr o w S rs) (ms : List Nat) (j : Nat) {b : Nat} {t : TypeId} {vs : List Value} (hj : rs[j]? = some (.box b t vs)) (hm : b ∉ ms) :
    ∀ w', ButL w ms w' → w'.heap[b]? = some (.cells vs.toArray t (0, 0)) := by
  intro w' hw'
  have h : w.heap[b]? = some (.cells vs.toArray t (0, 0)) := H.ok _ (List.mem_of_getElem? hj)
  rw [hw'.2 b (H.own _ (List.mem_of_getElem? hj) b rfl).2.1 hm]
  exact h
end Go.Proofs.Ytahonnlgkmimlaa

set_option linter.unusedSimpArgs false
set_option linter.unusedVariables false
namespace Go.Proofs.Ytahonnlgkmimlaa
open Go.RowKit

set_option maxRecDepth 100000 in
set_option maxHeartbeats 1000000 in
theorem verts_any (vl : Value) (l : List (Int × Int × Int)) (o : Orig) (hL : Rd (· < o.w.heap.size) o.w vl l) (hs : l.length ≤ 100000) :
  Calls Try.prog 61 [vl].toArray o.w (Giv o (fun S v w' => Rd S w' v (vertsL l))) := by
  refine enter Try.f61 24 Try.func61 fun a hA => ?_
  replace hA := env_sub [(0, vl)] hA
  have H := Fr.start o
  refine go_seq fun K1 hK1 => ?_
  refine q_reg [] [(0, vl)] ((True) ∧ True) hA H ⟨trivial, trivial⟩ fun a w2 hA H hG => ?_
  refine hK1 _ _ ?_
  refine go_seq fun K3 hK3 => ?_
  refine q_reg [] [(0, vl), (3, (.slice none 0 0))] ((True) ∧ True) hA H ⟨trivial, trivial⟩ fun a w4 hA H hG => ?_
  refine hK3 _ _ ?_
  refine go_seq fun K5 hK5 => ?_
  refine go_seq fun K6 hK6 => ?_
  refine q_reg [(7, .int .i64 (l.length : Int))] [(3, (.slice none 0 0)), (6, vl), (7, .int .i64 (l.length : Int)), (8, .int .i64 0)] ((True) ∧ (LenOk vl (l.length : Int)) ∧ (True) ∧ True) hA H ⟨trivial, by exact len_ok (H.arg hL), trivial, trivial⟩ fun a w7 hA H hG => ?_
  refine hK6 _ _ ?_
  refine go_block 0 ?_
  replace H := H.newRow (α := Int) 3
  refine go_loop_ (Int × Value × List Int) (fun x_ a W => (fun (i : Int) (vr : Value) (e : List Int) => EnvOk 24 a (keepEnv [(3, vr), (6, vl), (7, .int .i64 (l.length : Int)), (8, .int .i64 i)]) ∧ (∃ S, Fr o W S [.row 3 vr e]) ∧ 0 ≤ i ∧ i ≤ (l.length : Int) ∧ (e.length : Int) ≤ 2 * i ∧ e = endsK (l.take i.toNat)) x_.1 x_.2.1 x_.2.2) (fun x_ => (fun (i : Int) (vr : Value) (e : List Int) => ((l.length : Int) - i).toNat) x_.1 x_.2.1 x_.2.2) (0, .slice none 0 0, []) ?_ (fun x_ a w9 hI => ?_)
  · (try dsimp only); exact ⟨env_sub _ hA, ⟨_, H⟩, by omega, by omega, by simp, by simp [endsK]⟩
  obtain ⟨i, vr, e⟩ := x_
  obtain ⟨hA, ⟨S, H⟩, h0, h0b, h1, hi⟩ := hI
  try dsimp only at h0 h0b h1 hi
  replace H : Fr _ _ _ [.row 3 vr e] := H
  refine go_seq fun K10 hK10 => ?_
  refine q_reg [] [(3, vr), (6, vl), (7, .int .i64 (l.length : Int)), (8, .int .i64 i), (9, .bool (decide (i < (l.length : Int))))] ((True) ∧ True) hA H ⟨trivial, trivial⟩ fun a w11 hA H hG => ?_
  refine hK10 _ _ ?_
  refine go_seq fun K12 hK12 => ?_
  refine go_cond hA (.tmp 9) (decide (i < (l.length : Int))) (fun hb13 => ?_) (fun hb13 => ?_)
  · have hhb13 := of_decide_eq_true hb13
    refine go_skip ?_
    refine hK12 _ _ ?_
    refine go_seq fun K14 hK14 => ?_
    refine go_block 1 ?_
    refine go_seq fun K15 hK15 => ?_
    refine region_list ?_
    refine q_list 0 2 [(11, .agg #[.int .i64 ((l.getD i.toNat (0, (0, 0))).1), .int .i64 (((l.getD i.toNat (0, (0, 0))).2).1), .int .i64 (((l.getD i.toNat (0, (0, 0))).2).2)])] [(3, vr), (6, vl), (7, .int .i64 (l.length : Int)), (8, .int .i64 i), (11, .agg #[.int .i64 ((l.getD i.toNat (0, (0, 0))).1), .int .i64 (((l.getD i.toNat (0, (0, 0))).2).1), .int .i64 (((l.getD i.toNat (0, (0, 0))).2).2)])] (((Try.prog.info? 92).isSome = true ∧ IdxOk vl i) ∧ ((Try.prog.info? 92).isSome = true ∧ RowOk (On w11) (hdB vl) (hdO vl + i.toNat * 3) (Try.prog.cellsOf 92) #[.int .i64 ((l.getD i.toNat (0, (0, 0))).1), .int .i64 (((l.getD i.toNat (0, (0, 0))).2).1), .int .i64 (((l.getD i.toNat (0, (0, 0))).2).2)]) ∧ True) hA H ⟨⟨by kernel_rfl, by exact idx_ok (H.arg hL) (by omega) (by omega)⟩, ⟨by kernel_rfl, by exact row_flat (i := i) (H.arg hL) (by omega) (by omega) (0, (0, 0))⟩, trivial⟩ fun a w16 hA H hG => ?_
    refine list_at 2 ?_; refine q_alloc 2 5 92 [.int .i64 0, .int .i64 0, .int .i64 0] [(3, vr), (6, vl), (7, .int .i64 (l.length : Int)), (8, .int .i64 i), (11, .agg #[.int .i64 ((l.getD i.toNat (0, (0, 0))).1), .int .i64 (((l.getD i.toNat (0, (0, 0))).2).1), .int .i64 (((l.getD i.toNat (0, (0, 0))).2).2)])] hA H fun b17 a w18 H hA hG hge_b17 => ?_
    clear hge_b17
    refine list_at 3 ?_; refine q_store 3 92 (.tmp 5) (.tmp 11) 0 b17 (0) 92 [.int .i64 0, .int .i64 0, .int .i64 0] [.int .i64 ((l.getD i.toNat (0, (0, 0))).1), .int .i64 (((l.getD i.toNat (0, (0, 0))).2).1), .int .i64 (((l.getD i.toNat (0, (0, 0))).2).2)] [.int .i64 ((l.getD i.toNat (0, (0, 0))).1), .int .i64 (((l.getD i.toNat (0, (0, 0))).2).1), .int .i64 (((l.getD i.toNat (0, (0, 0))).2).2)] (.agg #[.int .i64 ((l.getD i.toNat (0, (0, 0))).1), .int .i64 (((l.getD i.toNat (0, (0, 0))).2).1), .int .i64 (((l.getD i.toNat (0, (0, 0))).2).2)]) [(3, vr), (5, .pointer (some ⟨b17, 0, none⟩)), (6, vl), (7, .int .i64 (l.length : Int)), (8, .int .i64 i)] hA H rfl rfl (Nat.le_of_ble_eq_true (by kernel_rfl)) rfl (fun v hv => by simp only [List.mem_cons, List.not_mem_nil, or_false] at hv; rcases hv with rfl | rfl | rfl; exact rfl; exact rfl; exact rfl) fun a w19 H hA hG => ?_
    replace H : Fr _ _ _ [.box b17 92 [.int .i64 ((l.getD i.toNat (0, (0, 0))).1), .int .i64 (((l.getD i.toNat (0, (0, 0))).2).1), .int .i64 (((l.getD i.toNat (0, (0, 0))).2).2)], .row 3 vr e] := H
    refine list_end ?_
    refine hK15 _ _ ?_
    refine region_list ?_
    refine q_list 0 5 [(14, .int .i64 ((l.getD i.toNat (0, (0, 0))).1)), (16, .int .i64 (((l.getD i.toNat (0, (0, 0))).2).1))] [(6, vl), (7, .int .i64 (l.length : Int)), (8, .int .i64 i), (12, vr), (14, .int .i64 ((l.getD i.toNat (0, (0, 0))).1)), (16, .int .i64 (((l.getD i.toNat (0, (0, 0))).2).1))] ((True) ∧ (0 < Try.prog.cellsOf 3) ∧ (CellOk (On w19) b17 (0 + 0) (.int .i64 ((l.getD i.toNat (0, (0, 0))).1))) ∧ (0 < Try.prog.cellsOf 3) ∧ (CellOk (On w19) b17 (0 + 1) (.int .i64 (((l.getD i.toNat (0, (0, 0))).2).1))) ∧ True) hA H ⟨trivial, by decide +kernel, by exact box_cell H 0 rfl 0, by decide +kernel, by exact box_cell H 0 rfl 1, trivial⟩ fun a w20 hA H hG => ?_
    refine list_at 5 ?_; refine q_lit 5 17 27 2 #[(0, .tmp 14), (1, .tmp 16)] 3 [(0, .int .i64 ((l.getD i.toNat (0, (0, 0))).1)), (1, .int .i64 (((l.getD i.toNat (0, (0, 0))).2).1))] [.int .i64 ((l.getD i.toNat (0, (0, 0))).1), .int .i64 (((l.getD i.toNat (0, (0, 0))).2).1)] [(6, vl), (7, .int .i64 (l.length : Int)), (8, .int .i64 i), (12, vr)] hA H fun b21 a w22 H hA hG hge_b21 => ?_
    clear hge_b21
    refine list_at 6 ?_; refine q_push 6 18 (.tmp 12) (.tmp 17) 2 0 b21 2 2 vr e [(l.getD i.toNat (0, (0, 0))).1, ((l.getD i.toNat (0, (0, 0))).2).1] [.int .i64 ((l.getD i.toNat (0, (0, 0))).1), .int .i64 (((l.getD i.toNat (0, (0, 0))).2).1)] [(6, vl), (7, .int .i64 (l.length : Int)), (8, .int .i64 i)] hA H Try.E27 rfl rfl (by exact ((RowRd.single (α := Int) rfl).append (RowRd.single (α := Int) rfl))) rfl (by simp only [List.length_cons, List.length_nil, List.length_append]; omega) (by decide) fun v23 a w24 H hA hG => ?_
    replace H : Fr _ _ _ [.box b17 92 [.int .i64 ((l.getD i.toNat (0, (0, 0))).1), .int .i64 (((l.getD i.toNat (0, (0, 0))).2).1), .int .i64 (((l.getD i.toNat (0, (0, 0))).2).2)], .row 3 v23 (e ++ [(l.getD i.toNat (0, (0, 0))).1, ((l.getD i.toNat (0, (0, 0))).2).1])] := H.drop 0
    refine q_list 7 1 [] [(3, v23), (6, vl), (7, .int .i64 (l.length : Int)), (8, .int .i64 i)] ((True) ∧ True) hA H ⟨trivial, trivial⟩ fun a w25 hA H hG => ?_
    refine list_end ?_
    refine hK14 _ _ ?_
    refine q_reg [] [(3, v23), (6, vl), (7, .int .i64 (l.length : Int)), (8, .int .i64 (i + 1))] ((InR .i64 (i + 1)) ∧ (True) ∧ True) hA H ⟨⟨by omega, by omega⟩, trivial, trivial⟩ fun a w26 hA H hG => ?_
    replace H := H.drop 0
    refine ⟨(i + 1, v23, e ++ [(l.getD i.toNat (0, (0, 0))).1, ((l.getD i.toNat (0, (0, 0))).2).1]), ⟨env_sub _ hA, ⟨_, H⟩, ?_⟩, ?_⟩
    · (try dsimp only); refine ⟨by omega, by omega, by (try simp only [List.length_append, List.length_cons, List.length_nil]); omega, by rw [hi, endsK_snoc h0 (by omega)]; rfl⟩
    · (try dsimp only); omega
  · have hhb13 := of_decide_eq_false hb13
    refine go_exit 0 ?_
    refine hK5 _ _ ?_
    refine go_seq fun K27 hK27 => ?_
    have hl1 : e.length ≤ 1000000 := by omega
    refine region_list ?_
    refine q_list 0 1 [] [(3, vr), (20, vr)] ((True) ∧ True) hA H ⟨trivial, trivial⟩ fun a w28 hA H hG => ?_
    refine list_at 1 ?_; refine q_any 1 21 74 #[.tmp 20] #[27] [vr] _ [(3, vr)] hA (by exact sort_row H 0 rfl (by first | omega | (simp only [List.length_mergeSort]; omega) | (simp only [List.length_cons]; omega))) fun v29 a w30 hR31 hA => ?_
    obtain ⟨H, hG⟩ := hR31
    replace H : Fr _ _ _ [.row 3 vr (sortL e)] := H
    refine list_end ?_
    refine hK27 _ _ ?_
    refine go_seq fun K32 hK32 => ?_
    refine region_list ?_
    refine q_list 0 1 [] [(22, vr)] ((True) ∧ True) hA H ⟨trivial, trivial⟩ fun a w33 hA H hG => ?_
    refine list_at 1 ?_; refine q_any 1 23 75 #[.tmp 22] #[27] [vr] _ [] hA (by exact compact_row H 0 rfl (by first | omega | (simp only [List.length_mergeSort]; omega) | (simp only [List.length_cons]; omega))) fun v34 a w35 hR36 hA => ?_
    obtain ⟨H, hG⟩ := hR36
    replace H : Fr _ _ _ [.row 3 v34 (Lib.compact (sortL e))] := H
    refine q_list 2 1 [] [(2, v34)] ((True) ∧ True) hA H ⟨trivial, trivial⟩ fun a w37 hA H hG => ?_
    refine list_end ?_
    refine hK32 _ _ ?_
    refine go_ret_ ?_
    refine ret_one 2 v34 hA ?_
    have ho := (H.give 0 rfl)
    rw [hi, List.take_of_length_le (by omega)] at ho; exact ⟨_, rfl, ho, H.below⟩

set_option maxRecDepth 100000 in
set_option maxHeartbeats 1000000 in
theorem rings_any (vl : Value) (l : List (Int × Int × Int)) (w : World) (hL : Rd (· < w.heap.size) w vl l) (hs : l.length ≤ 100000) (hwf : WfL l) :
  Calls Try.prog 90 [vl].toArray w (Ans (.bool (ringsB l)) w) := by
  refine enter Try.f90 34 Try.func90 fun a hA => ?_
  replace hA := env_sub [(0, vl)] hA
  have H := Fr.start (org w)
  refine go_seq fun K1 hK1 => ?_
  refine q_reg [] [(0, vl)] ((True) ∧ True) hA H ⟨trivial, trivial⟩ fun a w2 hA H hG => ?_
  refine hK1 _ _ ?_
  refine go_seq fun K3 hK3 => ?_
  refine region_list ?_
  refine list_at 0 ?_; refine q_makeMap Int 3 0 8 130 [(0, vl)] hA H fun b4 a w5 H hA hG hge_b4 => ?_
  clear hge_b4
  replace H : Fr _ _ _ [mapN Try.prog 3 b4 []] := H
  refine q_list 1 1 [] [(0, vl), (3, (.map (some b4)))] ((True) ∧ True) hA H ⟨trivial, trivial⟩ fun a w6 hA H hG => ?_
  refine list_end ?_
  refine hK3 _ _ ?_
  refine go_seq fun K7 hK7 => ?_
  refine go_seq fun K8 hK8 => ?_
  refine q_reg [(10, .int .i64 (l.length : Int))] [(3, (.map (some b4))), (9, vl), (10, .int .i64 (l.length : Int)), (11, .int .i64 0)] ((True) ∧ (LenOk vl (l.length : Int)) ∧ (True) ∧ True) hA H ⟨trivial, by exact len_ok (H.arg hL), trivial, trivial⟩ fun a w9 hA H hG => ?_
  refine hK8 _ _ ?_
  refine go_block 0 ?_
  refine go_loop_ (Int × List (Int × Int)) (fun x_ a W => (fun (i : Int) (m : List (Int × Int)) => EnvOk 34 a (keepEnv [(3, (.map (some b4))), (9, vl), (10, .int .i64 (l.length : Int)), (11, .int .i64 i)]) ∧ (∃ S, Fr (org w) W S [mapN Try.prog 3 b4 m]) ∧ 0 ≤ i ∧ i ≤ (l.length : Int) ∧ (m.length : Int) ≤ 2 * i ∧ ∀ v, lastAt m v = cntO (endsK (l.take i.toNat)) v) x_.1 x_.2) (fun x_ => (fun (i : Int) (m : List (Int × Int)) => ((l.length : Int) - i).toNat) x_.1 x_.2) (0, []) ?_ (fun x_ a w11 hI => ?_)
  · (try dsimp only); exact ⟨env_sub _ hA, ⟨_, H⟩, by omega, by omega, by simp, fun v => by simp [lastAt, cntO, endsK]⟩
  obtain ⟨i, m⟩ := x_
  obtain ⟨hA, ⟨S, H⟩, h0, h0b, hml, hm⟩ := hI
  try dsimp only at h0 h0b hml hm
  replace H : Fr _ _ _ [mapN Try.prog 3 b4 m] := H
  refine go_seq fun K12 hK12 => ?_
  refine q_reg [] [(3, (.map (some b4))), (9, vl), (10, .int .i64 (l.length : Int)), (11, .int .i64 i), (12, .bool (decide (i < (l.length : Int))))] ((True) ∧ True) hA H ⟨trivial, trivial⟩ fun a w13 hA H hG => ?_
  refine hK12 _ _ ?_
  refine go_seq fun K14 hK14 => ?_
  refine go_cond hA (.tmp 12) (decide (i < (l.length : Int))) (fun hb15 => ?_) (fun hb15 => ?_)
  · have hhb15 := of_decide_eq_true hb15
    refine go_skip ?_
    refine hK14 _ _ ?_
    refine go_seq fun K16 hK16 => ?_
    refine go_block 1 ?_
    refine go_seq fun K17 hK17 => ?_
    refine region_list ?_
    refine q_list 0 2 [(14, .agg #[.int .i64 ((l.getD i.toNat (0, (0, 0))).1), .int .i64 (((l.getD i.toNat (0, (0, 0))).2).1), .int .i64 (((l.getD i.toNat (0, (0, 0))).2).2)])] [(3, (.map (some b4))), (9, vl), (10, .int .i64 (l.length : Int)), (11, .int .i64 i), (14, .agg #[.int .i64 ((l.getD i.toNat (0, (0, 0))).1), .int .i64 (((l.getD i.toNat (0, (0, 0))).2).1), .int .i64 (((l.getD i.toNat (0, (0, 0))).2).2)])] (((Try.prog.info? 92).isSome = true ∧ IdxOk vl i) ∧ ((Try.prog.info? 92).isSome = true ∧ RowOk (On w13) (hdB vl) (hdO vl + i.toNat * 3) (Try.prog.cellsOf 92) #[.int .i64 ((l.getD i.toNat (0, (0, 0))).1), .int .i64 (((l.getD i.toNat (0, (0, 0))).2).1), .int .i64 (((l.getD i.toNat (0, (0, 0))).2).2)]) ∧ True) hA H ⟨⟨by kernel_rfl, by exact idx_ok (H.arg hL) (by omega) (by omega)⟩, ⟨by kernel_rfl, by exact row_flat (i := i) (H.arg hL) (by omega) (by omega) (0, (0, 0))⟩, trivial⟩ fun a w18 hA H hG => ?_
    refine list_at 2 ?_; refine q_alloc 2 5 92 [.int .i64 0, .int .i64 0, .int .i64 0] [(3, (.map (some b4))), (9, vl), (10, .int .i64 (l.length : Int)), (11, .int .i64 i), (14, .agg #[.int .i64 ((l.getD i.toNat (0, (0, 0))).1), .int .i64 (((l.getD i.toNat (0, (0, 0))).2).1), .int .i64 (((l.getD i.toNat (0, (0, 0))).2).2)])] hA H fun b19 a w20 H hA hG hge_b19 => ?_
    clear hge_b19
    refine list_at 3 ?_; refine q_store 3 92 (.tmp 5) (.tmp 14) 0 b19 (0) 92 [.int .i64 0, .int .i64 0, .int .i64 0] [.int .i64 ((l.getD i.toNat (0, (0, 0))).1), .int .i64 (((l.getD i.toNat (0, (0, 0))).2).1), .int .i64 (((l.getD i.toNat (0, (0, 0))).2).2)] [.int .i64 ((l.getD i.toNat (0, (0, 0))).1), .int .i64 (((l.getD i.toNat (0, (0, 0))).2).1), .int .i64 (((l.getD i.toNat (0, (0, 0))).2).2)] (.agg #[.int .i64 ((l.getD i.toNat (0, (0, 0))).1), .int .i64 (((l.getD i.toNat (0, (0, 0))).2).1), .int .i64 (((l.getD i.toNat (0, (0, 0))).2).2)]) [(3, (.map (some b4))), (5, .pointer (some ⟨b19, 0, none⟩)), (9, vl), (10, .int .i64 (l.length : Int)), (11, .int .i64 i)] hA H rfl rfl (Nat.le_of_ble_eq_true (by kernel_rfl)) rfl (fun v hv => by simp only [List.mem_cons, List.not_mem_nil, or_false] at hv; rcases hv with rfl | rfl | rfl; exact rfl; exact rfl; exact rfl) fun a w21 H hA hG => ?_
    replace H : Fr _ _ _ [.box b19 92 [.int .i64 ((l.getD i.toNat (0, (0, 0))).1), .int .i64 (((l.getD i.toNat (0, (0, 0))).2).1), .int .i64 (((l.getD i.toNat (0, (0, 0))).2).2)], mapN Try.prog 3 b4 m] := H
    refine list_end ?_
    refine hK17 _ _ ?_
    refine go_seq fun K22 hK22 => ?_
    have hwi := hwf i h0 (by omega)
    have hw1 : wfI (l.getD i.toNat (0, (0, 0))).1 := hwi.1
    have hw2 : wfI (l.getD i.toNat (0, (0, 0))).2.1 := hwi.2.1
    unfold wfI at hw1 hw2
    have hb1 := cnt_bd hm (l.getD i.toNat (0, (0, 0))).1
    have hlt : (endsK (l.take i.toNat)).length ≤ 2 * l.length := by rw [endsK_len, List.length_take]; omega
    have hm2 := cnt_put hm (lkA l i)
    have hb2 : _ := cnt_bd hm2 (l.getD i.toNat (0, (0, 0))).2.1
    rw [List.length_append] at hb2; simp only [List.length_cons, List.length_nil, lkA] at hb2
    refine region_list ?_
    refine q_list 0 5 [(17, .int .i64 ((l.getD i.toNat (0, (0, 0))).1)), (18, .int .i64 ((lastAt m ((l.getD i.toNat (0, (0, 0))).1)).getD 0))] [(3, (.map (some b4))), (5, .pointer (some ⟨b19, 0, none⟩)), (9, vl), (10, .int .i64 (l.length : Int)), (11, .int .i64 i), (15, (.map (some b4))), (17, .int .i64 ((l.getD i.toNat (0, (0, 0))).1)), (19, .int .i64 (((lastAt m ((l.getD i.toNat (0, (0, 0))).1)).getD 0) + 1))] ((True) ∧ (0 < Try.prog.cellsOf 3) ∧ (CellOk (On w21) b19 (0 + 0) (.int .i64 ((l.getD i.toNat (0, (0, 0))).1))) ∧ (∀ w', On w21 w' → (Instr.lookup 130 (.map (some b4)) (.int .i64 ((l.getD i.toNat (0, (0, 0))).1)) false).run Try.prog w' = .ok (.int .i64 ((lastAt m ((l.getD i.toNat (0, (0, 0))).1)).getD 0)) w') ∧ (InR .i64 (((lastAt m ((l.getD i.toNat (0, (0, 0))).1)).getD 0) + 1)) ∧ True) hA H ⟨trivial, by decide +kernel, by exact box_cell H 0 rfl 0, by exact mapN_look H 1 rfl (obj_on H 1 rfl) ⟨by omega, by omega⟩ Try.underlying130 Try.underlying3 (fun w => by kernel_rfl), ⟨by omega, by omega⟩, trivial⟩ fun a w23 hA H hG => ?_
    refine list_at 5 ?_; refine q_mapUpdateN 5 130 (.tmp 15) (.tmp 17) (.tmp 19) 1 b4 m ((l.getD i.toNat (0, (0, 0))).1) (((lastAt m ((l.getD i.toNat (0, (0, 0))).1)).getD 0) + 1) [(3, (.map (some b4))), (5, .pointer (some ⟨b19, 0, none⟩)), (9, vl), (10, .int .i64 (l.length : Int)), (11, .int .i64 i)] hA H rfl ⟨by omega, by omega⟩ (by (try simp only [List.length_append, List.length_cons, List.length_nil]); omega) Try.underlying130 Try.underlying3 fun a w24 H hA hG => ?_
    replace H : Fr _ _ _ [.box b19 92 [.int .i64 ((l.getD i.toNat (0, (0, 0))).1), .int .i64 (((l.getD i.toNat (0, (0, 0))).2).1), .int .i64 (((l.getD i.toNat (0, (0, 0))).2).2)], mapN Try.prog 3 b4 (m ++ [((l.getD i.toNat (0, (0, 0))).1, ((lastAt m ((l.getD i.toNat (0, (0, 0))).1)).getD 0) + 1)])] := H
    refine list_end ?_
    refine hK22 _ _ ?_
    refine region_list ?_
    refine q_list 0 5 [(22, .int .i64 (((l.getD i.toNat (0, (0, 0))).2).1)), (23, .int .i64 ((lastAt (m ++ [((l.getD i.toNat (0, (0, 0))).1, ((lastAt m ((l.getD i.toNat (0, (0, 0))).1)).getD 0) + 1)]) (((l.getD i.toNat (0, (0, 0))).2).1)).getD 0))] [(3, (.map (some b4))), (9, vl), (10, .int .i64 (l.length : Int)), (11, .int .i64 i), (20, (.map (some b4))), (22, .int .i64 (((l.getD i.toNat (0, (0, 0))).2).1)), (24, .int .i64 (((lastAt (m ++ [((l.getD i.toNat (0, (0, 0))).1, ((lastAt m ((l.getD i.toNat (0, (0, 0))).1)).getD 0) + 1)]) (((l.getD i.toNat (0, (0, 0))).2).1)).getD 0) + 1))] ((True) ∧ (0 < Try.prog.cellsOf 3) ∧ (CellOk (On w24) b19 (0 + 1) (.int .i64 (((l.getD i.toNat (0, (0, 0))).2).1))) ∧ (∀ w', On w24 w' → (Instr.lookup 130 (.map (some b4)) (.int .i64 (((l.getD i.toNat (0, (0, 0))).2).1)) false).run Try.prog w' = .ok (.int .i64 ((lastAt (m ++ [((l.getD i.toNat (0, (0, 0))).1, ((lastAt m ((l.getD i.toNat (0, (0, 0))).1)).getD 0) + 1)]) (((l.getD i.toNat (0, (0, 0))).2).1)).getD 0)) w') ∧ (InR .i64 (((lastAt (m ++ [((l.getD i.toNat (0, (0, 0))).1, ((lastAt m ((l.getD i.toNat (0, (0, 0))).1)).getD 0) + 1)]) (((l.getD i.toNat (0, (0, 0))).2).1)).getD 0) + 1)) ∧ True) hA H ⟨trivial, by decide +kernel, by exact box_cell H 0 rfl 1, by exact mapN_look H 1 rfl (obj_on H 1 rfl) ⟨by omega, by omega⟩ Try.underlying130 Try.underlying3 (fun w => by kernel_rfl), ⟨by omega, by omega⟩, trivial⟩ fun a w25 hA H hG => ?_
    refine list_at 5 ?_; refine q_mapUpdateN 5 130 (.tmp 20) (.tmp 22) (.tmp 24) 1 b4 (m ++ [((l.getD i.toNat (0, (0, 0))).1, ((lastAt m ((l.getD i.toNat (0, (0, 0))).1)).getD 0) + 1)]) (((l.getD i.toNat (0, (0, 0))).2).1) (((lastAt (m ++ [((l.getD i.toNat (0, (0, 0))).1, ((lastAt m ((l.getD i.toNat (0, (0, 0))).1)).getD 0) + 1)]) (((l.getD i.toNat (0, (0, 0))).2).1)).getD 0) + 1) [(3, (.map (some b4))), (9, vl), (10, .int .i64 (l.length : Int)), (11, .int .i64 i)] hA H rfl ⟨by omega, by omega⟩ (by (try simp only [List.length_append, List.length_cons, List.length_nil]); omega) Try.underlying130 Try.underlying3 fun a w26 H hA hG => ?_
    replace H : Fr _ _ _ [.box b19 92 [.int .i64 ((l.getD i.toNat (0, (0, 0))).1), .int .i64 (((l.getD i.toNat (0, (0, 0))).2).1), .int .i64 (((l.getD i.toNat (0, (0, 0))).2).2)], mapN Try.prog 3 b4 ((m ++ [((l.getD i.toNat (0, (0, 0))).1, ((lastAt m ((l.getD i.toNat (0, (0, 0))).1)).getD 0) + 1)]) ++ [(((l.getD i.toNat (0, (0, 0))).2).1, ((lastAt (m ++ [((l.getD i.toNat (0, (0, 0))).1, ((lastAt m ((l.getD i.toNat (0, (0, 0))).1)).getD 0) + 1)]) (((l.getD i.toNat (0, (0, 0))).2).1)).getD 0) + 1)])] := H
    refine list_end ?_
    refine hK16 _ _ ?_
    refine q_reg [] [(3, (.map (some b4))), (9, vl), (10, .int .i64 (l.length : Int)), (11, .int .i64 (i + 1))] ((InR .i64 (i + 1)) ∧ (True) ∧ True) hA H ⟨⟨by omega, by omega⟩, trivial, trivial⟩ fun a w27 hA H hG => ?_
    replace H := H.drop 0
    refine ⟨(i + 1, (m ++ [((l.getD i.toNat (0, (0, 0))).1, ((lastAt m ((l.getD i.toNat (0, (0, 0))).1)).getD 0) + 1)]) ++ [(((l.getD i.toNat (0, (0, 0))).2).1, ((lastAt (m ++ [((l.getD i.toNat (0, (0, 0))).1, ((lastAt m ((l.getD i.toNat (0, (0, 0))).1)).getD 0) + 1)]) (((l.getD i.toNat (0, (0, 0))).2).1)).getD 0) + 1)]), ⟨env_sub _ hA, ⟨_, H⟩, ?_⟩, ?_⟩
    · (try dsimp only); refine ⟨by omega, by omega, by (try simp only [List.length_append, List.length_cons, List.length_nil]); omega, fun v => ?_⟩; rw [endsK_snoc h0 (by omega)]; rw [show endsK (l.take i.toNat) ++ [lkA l i, lkB l i] = (endsK (l.take i.toNat) ++ [lkA l i]) ++ [lkB l i] by simp]; exact cnt_put hm2 (lkB l i) v
    · (try dsimp only); omega
  · have hhb15 := of_decide_eq_false hb15
    refine go_exit 0 ?_
    refine hK7 _ _ ?_
    refine go_seq fun K28 hK28 => ?_
    refine go_seq fun K29 hK29 => ?_
    rw [List.take_of_length_le (by omega)] at hm
    refine region_list ?_
    refine q_list 0 1 [] [(26, (.map (some b4)))] ((True) ∧ True) hA H ⟨trivial, trivial⟩ fun a w30 hA H hG => ?_
    refine list_at 1 ?_; refine q_rangeM 1 27 130 (.tmp 26) 0 b4 m [] hA H rfl Try.underlying130 Try.underlying3 fun rb32 X33 Y34 left35 cnt36 a w31 hRg hRl H hA hG => ?_
    replace H : Fr _ _ _ [isO rb32 Y34, isO b4 X33] := H
    refine list_end ?_
    refine hK29 _ _ ?_
    refine go_block 2 ?_
    refine go_loop_ (Obj × (Lit → Bool) × Nat) (fun x_ a W => (fun (Y : Obj) (left : (Lit → Bool)) (cn : Nat) => EnvOk 34 a (keepEnv [(27, .pointer (some ⟨rb32, 0, none⟩))]) ∧ (∃ S, Fr (org w) W S [isO rb32 Y, isO b4 X33]) ∧ RangeOf Try.prog 3 b4 rb32 m left cn X33 Y ∧ (∀ k c, lastAt m k = some c → left (.int .i64 k) = false → c = 2)) x_.1 x_.2.1 x_.2.2) (fun x_ => (fun (Y : Obj) (left : (Lit → Bool)) (cn : Nat) => cn) x_.1 x_.2.1 x_.2.2) (Y34, left35, cnt36) ?_ (fun x_ a w38 hI => ?_)
    · (try dsimp only); exact ⟨env_sub _ hA, ⟨_, H⟩, hRg, fun k c hk hl => by rw [hRl, hk] at hl; cases hl⟩
    obtain ⟨Y, left, cn⟩ := x_
    obtain ⟨hA, ⟨S, H⟩, hRg, hld⟩ := hI
    try dsimp only at hRg hld
    replace H : Fr _ _ _ [isO rb32 Y, isO b4 X33] := H
    refine go_seq fun K39 hK39 => ?_
    refine region_list ?_
    refine list_at 0 ?_; refine q_nextM 0 28 (.tmp 27) 0 1 b4 rb32 m left cn X33 Y [(27, .pointer (some ⟨rb32, 0, none⟩))] hA H rfl rfl hRg Try.underlying3 (fun mk41 mc42 left43 cnt44 Y45 a w40 hmk hmc hml hRg hcn H hE hA hG => ?_) (fun hmd a hA => ?_)
    · replace H : Fr _ _ _ [isO rb32 Y45, isO b4 X33] := H
      refine q_list 1 1 [] [(27, .pointer (some ⟨rb32, 0, none⟩)), (29, .bool true)] ((True) ∧ True) hA H ⟨trivial, trivial⟩ fun a w46 hA H hG => ?_
      refine list_end ?_
      refine hK39 _ _ ?_
      refine go_seq fun K47 hK47 => ?_
      refine go_cond hA (.tmp 29) true (fun _ => ?_) (fun h => by cases h)
      refine go_skip ?_
      refine hK47 _ _ ?_
      refine go_block 3 ?_
      refine go_seq fun K49 hK49 => ?_
      refine region_list ?_
      refine list_at 0 ?_; refine q_entry 0 30 (.tmp 27) 0 1 b4 rb32 X33 Y45 (.tuple #[.int .i64 mk41, .int .i64 mc42]) [(27, .pointer (some ⟨rb32, 0, none⟩))] hA H rfl rfl hE fun a hA => ?_
      refine q_list 1 2 [] [(7, .int .i64 mc42), (27, .pointer (some ⟨rb32, 0, none⟩))] ((True) ∧ (True) ∧ True) hA H ⟨trivial, trivial, trivial⟩ fun a w50 hA H hG => ?_
      refine list_end ?_
      refine hK49 _ _ ?_
      refine go_seq fun K51 hK51 => ?_
      refine q_reg [] [(27, .pointer (some ⟨rb32, 0, none⟩)), (33, .bool (!decide (mc42 = 2)))] ((True) ∧ (True) ∧ True) hA H ⟨trivial, trivial, trivial⟩ fun a w52 hA H hG => ?_
      refine hK51 _ _ ?_
      refine go_cond hA (.tmp 33) (!decide (mc42 = 2)) (fun hb53 => ?_) (fun hb53 => ?_)
      · have hhb53 := of_decide_eq_false (nT hb53)
        refine go_seq fun K54 hK54 => ?_
        refine q_reg [] [(2, .bool false)] ((True) ∧ True) hA H ⟨trivial, trivial⟩ fun a w55 hA H hG => ?_
        refine hK54 _ _ ?_
        refine go_ret_ ?_
        refine ret_one 2 (.bool false) hA ?_
        exact ans_b' (rings_F hm hmc (by omega)).symm H.below
      · have hhb53 := of_decide_eq_true (nF hb53)
        refine go_skip ?_
        refine ⟨(Y45, left43, cnt44), ⟨env_sub _ hA, ⟨_, H⟩, ?_⟩, ?_⟩
        · (try dsimp only); exact ⟨hRg, range_step hml hmc hld (by omega)⟩
        · (try dsimp only); omega
    · skip
      refine q_list 1 1 [] [(27, .pointer (some ⟨rb32, 0, none⟩)), (29, .bool false)] ((True) ∧ True) hA H ⟨trivial, trivial⟩ fun a w56 hA H hG => ?_
      refine list_end ?_
      refine hK39 _ _ ?_
      refine go_seq fun K57 hK57 => ?_
      refine go_cond hA (.tmp 29) false (fun h => by cases h) (fun _ => ?_)
      refine go_exit 2 ?_
      refine hK28 _ _ ?_
      refine go_seq fun K59 hK59 => ?_
      refine q_reg [] [(2, .bool true)] ((True) ∧ True) hA H ⟨trivial, trivial⟩ fun a w60 hA H hG => ?_
      refine hK59 _ _ ?_
      refine go_ret_ ?_
      refine ret_one 2 (.bool true) hA ?_
      exact ans_b' (rings_T hm (fun k c hk => hld k c hk (hmd k))).symm H.below

end Go.Proofs.Ytahonnlgkmimlaa

set_option linter.unusedSimpArgs false
set_option linter.unusedVariables false
namespace Go.Proofs.Ytahonnlgkmimlaa
open Go.RowKit

set_option maxRecDepth 100000 in
set_option maxHeartbeats 1000000 in
theorem right_any (n : Int) (ve : Value) (E : List (Int × Int)) (w : World) (hn : -9223372036854775808 ≤ n ∧ n ≤ 9223372036854775807) (hE : Rd (· < w.heap.size) w ve E) :
  Calls Try.prog 20 [.agg #[.int .i64 n, ve]].toArray w (Ans (.int .i64 (rightE n E)) w) := by
  refine enter Try.f20 50 Try.func20 fun a hA => ?_
  replace hA := env_sub [(0, .agg #[.int .i64 n, ve])] hA
  have H := Fr.start (org w)
  refine go_seq fun K1 hK1 => ?_
  refine region_list ?_
  refine list_at 0 ?_; refine q_box 0 1 24 (.tmp 0) (.agg #[.int .i64 n, ve]) [.int .i64 n, ve] [] hA H fun b2 a w3 H hA hG hge_b2 => ?_
  clear hge_b2
  refine q_list 1 1 [] [(1, .pointer (some ⟨b2, 0, none⟩))] ((True) ∧ True) hA H ⟨trivial, trivial⟩ fun a w4 hA H hG => ?_
  refine list_end ?_
  refine hK1 _ _ ?_
  refine go_seq fun K5 hK5 => ?_
  refine go_seq fun K6 hK6 => ?_
  refine q_reg [(6, .int .i64 n)] [(1, .pointer (some ⟨b2, 0, none⟩)), (7, .bool (decide (n < 0)))] ((0 < Try.prog.cellsOf 3) ∧ (CellOk (On w4) b2 (0 + 0) (.int .i64 n)) ∧ (True) ∧ True) hA H ⟨by decide +kernel, by exact box_cell H 0 rfl 0, trivial, trivial⟩ fun a w7 hA H hG => ?_
  refine hK6 _ _ ?_
  refine go_cond hA (.tmp 7) (decide (n < 0)) (fun hb8 => ?_) (fun hb8 => ?_)
  · have hhb8 := of_decide_eq_true hb8
    refine go_seq fun K9 hK9 => ?_
    refine q_reg [] [(2, .int .i64 3)] ((True) ∧ True) hA H ⟨trivial, trivial⟩ fun a w10 hA H hG => ?_
    refine hK9 _ _ ?_
    refine go_ret_ ?_
    refine ret_one 2 (.int .i64 3) hA ?_
    exact ans_i' (by unfold rightE; first | rw [if_pos (by omega)] | rw [if_neg (by omega), if_pos (by omega)]) H.below
  · have hhb8 := of_decide_eq_false hb8
    refine go_skip ?_
    refine hK5 _ _ ?_
    refine go_seq fun K11 hK11 => ?_
    refine go_seq fun K12 hK12 => ?_
    refine q_reg [(9, .int .i64 n), (13, ve), (14, .int .i64 (E.length : Int)), (16, .int .i64 n)] [(1, .pointer (some ⟨b2, 0, none⟩)), (19, .bool ((decide ((1024 : Int) < n)) || (decide (1024 - n < (E.length : Int)))))] ((0 < Try.prog.cellsOf 3) ∧ (CellOk (On w7) b2 (0 + 0) (.int .i64 n)) ∧ (True) ∧ (True) ∧ ((decide ((1024 : Int) < n)) = false → 0 < Try.prog.cellsOf 22) ∧ ((decide ((1024 : Int) < n)) = false → CellOk (On w7) b2 (0 + 1) (ve)) ∧ ((decide ((1024 : Int) < n)) = false → LenOk ve (E.length : Int)) ∧ ((decide ((1024 : Int) < n)) = false → 0 < Try.prog.cellsOf 3) ∧ ((decide ((1024 : Int) < n)) = false → CellOk (On w7) b2 (0 + 0) (.int .i64 n)) ∧ ((decide ((1024 : Int) < n)) = false → InR .i64 (1024 - n)) ∧ ((decide ((1024 : Int) < n)) = false → True) ∧ (True) ∧ True) hA H ⟨by decide +kernel, by exact box_cell H 0 rfl 0, trivial, trivial, fun _ => by decide +kernel, fun _ => by exact box_cell H 0 rfl 1, fun _ => by exact len_ok (H.arg hE), fun _ => by decide +kernel, fun _ => by exact box_cell H 0 rfl 0, fun hg0 => by replace hg0 := of_decide_eq_false hg0; exact ⟨by omega, by omega⟩, fun _ => trivial, trivial, trivial⟩ fun a w13 hA H hG => ?_
    refine hK12 _ _ ?_
    refine go_cond hA (.tmp 19) ((decide ((1024 : Int) < n)) || (decide (1024 - n < (E.length : Int)))) (fun hb14 => ?_) (fun hb14 => ?_)
    · have hhb14 := (oT hb14).imp (fun h => of_decide_eq_true h) (fun h => of_decide_eq_true h)
      refine go_seq fun K15 hK15 => ?_
      refine q_reg [] [(2, .int .i64 2)] ((True) ∧ True) hA H ⟨trivial, trivial⟩ fun a w16 hA H hG => ?_
      refine hK15 _ _ ?_
      refine go_ret_ ?_
      refine ret_one 2 (.int .i64 2) hA ?_
      exact ans_i' (by unfold rightE; first | rw [if_pos (by omega)] | rw [if_neg (by omega), if_pos (by omega)]) H.below
    · have hhb14 := (⟨of_decide_eq_false ((oF hb14).1), of_decide_eq_false ((oF hb14).2)⟩ : _ ∧ _)
      refine go_skip ?_
      refine hK11 _ _ ?_
      refine go_seq fun K17 hK17 => ?_
      refine go_seq fun K18 hK18 => ?_
      refine q_reg [(21, ve), (22, .int .i64 (E.length : Int))] [(1, .pointer (some ⟨b2, 0, none⟩)), (21, ve), (22, .int .i64 (E.length : Int)), (23, .int .i64 0)] ((0 < Try.prog.cellsOf 22) ∧ (CellOk (On w13) b2 (0 + 1) (ve)) ∧ (LenOk ve (E.length : Int)) ∧ (True) ∧ True) hA H ⟨by decide +kernel, by exact box_cell H 0 rfl 1, by exact len_ok (H.arg hE), trivial, trivial⟩ fun a w19 hA H hG => ?_
      refine hK18 _ _ ?_
      refine go_block 0 ?_
      refine go_loop_ (Int) (fun x_ a W => (fun (i : Int) => EnvOk 50 a (keepEnv [(1, .pointer (some ⟨b2, 0, none⟩)), (21, ve), (22, .int .i64 (E.length : Int)), (23, .int .i64 i)]) ∧ (∃ S, Fr (org w) W S [.box b2 24 [.int .i64 n, ve]]) ∧ 0 ≤ i ∧ ∀ j : Nat, (j : Int) < i → okE n (E.getD j (0, 0))) x_) (fun x_ => (fun (i : Int) => ((E.length : Int) - i).toNat) x_) (0) ?_ (fun i a w21 hI => ?_)
      · (try dsimp only); exact ⟨env_sub _ hA, ⟨_, H⟩, by omega, fun j hj => by omega⟩
      obtain ⟨hA, ⟨S, H⟩, h0, hok⟩ := hI
      try dsimp only at h0 hok
      refine go_seq fun K22 hK22 => ?_
      refine q_reg [] [(1, .pointer (some ⟨b2, 0, none⟩)), (21, ve), (22, .int .i64 (E.length : Int)), (23, .int .i64 i), (24, .bool (decide (i < (E.length : Int))))] ((True) ∧ True) hA H ⟨trivial, trivial⟩ fun a w23 hA H hG => ?_
      refine hK22 _ _ ?_
      refine go_seq fun K24 hK24 => ?_
      refine go_cond hA (.tmp 24) (decide (i < (E.length : Int))) (fun hb25 => ?_) (fun hb25 => ?_)
      · have hhb25 := of_decide_eq_true hb25
        refine go_skip ?_
        refine hK24 _ _ ?_
        refine go_seq fun K26 hK26 => ?_
        refine go_block 1 ?_
        refine go_seq fun K27 hK27 => ?_
        refine region_list ?_
        refine q_list 0 2 [(26, .agg #[.int .i64 ((E.getD i.toNat (0, 0)).1), .int .i64 ((E.getD i.toNat (0, 0)).2)])] [(1, .pointer (some ⟨b2, 0, none⟩)), (21, ve), (22, .int .i64 (E.length : Int)), (23, .int .i64 i), (26, .agg #[.int .i64 ((E.getD i.toNat (0, 0)).1), .int .i64 ((E.getD i.toNat (0, 0)).2)])] (((Try.prog.info? 99).isSome = true ∧ IdxOk ve i) ∧ ((Try.prog.info? 99).isSome = true ∧ RowOk (On w23) (hdB ve) (hdO ve + i.toNat * 2) (Try.prog.cellsOf 99) #[.int .i64 ((E.getD i.toNat (0, 0)).1), .int .i64 ((E.getD i.toNat (0, 0)).2)]) ∧ True) hA H ⟨⟨by kernel_rfl, by exact idx_ok (H.arg hE) (by omega) (by omega)⟩, ⟨by kernel_rfl, by exact row_flat (i := i) (H.arg hE) (by omega) (by omega) (0, 0)⟩, trivial⟩ fun a w28 hA H hG => ?_
        refine list_at 2 ?_; refine q_alloc 2 4 99 [.int .i64 0, .int .i64 0] [(1, .pointer (some ⟨b2, 0, none⟩)), (21, ve), (22, .int .i64 (E.length : Int)), (23, .int .i64 i), (26, .agg #[.int .i64 ((E.getD i.toNat (0, 0)).1), .int .i64 ((E.getD i.toNat (0, 0)).2)])] hA H fun b29 a w30 H hA hG hge_b29 => ?_
        clear hge_b29
        refine list_at 3 ?_; refine q_store 3 99 (.tmp 4) (.tmp 26) 0 b29 (0) 99 [.int .i64 0, .int .i64 0] [.int .i64 ((E.getD i.toNat (0, 0)).1), .int .i64 ((E.getD i.toNat (0, 0)).2)] [.int .i64 ((E.getD i.toNat (0, 0)).1), .int .i64 ((E.getD i.toNat (0, 0)).2)] (.agg #[.int .i64 ((E.getD i.toNat (0, 0)).1), .int .i64 ((E.getD i.toNat (0, 0)).2)]) [(1, .pointer (some ⟨b2, 0, none⟩)), (4, .pointer (some ⟨b29, 0, none⟩)), (21, ve), (22, .int .i64 (E.length : Int)), (23, .int .i64 i)] hA H rfl rfl (Nat.le_of_ble_eq_true (by kernel_rfl)) rfl (fun v hv => by simp only [List.mem_cons, List.not_mem_nil, or_false] at hv; rcases hv with rfl | rfl; exact rfl; exact rfl) fun a w31 H hA hG => ?_
        replace H : Fr _ _ _ [.box b29 99 [.int .i64 ((E.getD i.toNat (0, 0)).1), .int .i64 ((E.getD i.toNat (0, 0)).2)], .box b2 24 [.int .i64 n, ve]] := H
        refine list_end ?_
        refine hK27 _ _ ?_
        refine go_seq fun K32 hK32 => ?_
        refine q_reg [(28, .int .i64 ((E.getD i.toNat (0, 0)).1)), (32, .int .i64 ((E.getD i.toNat (0, 0)).1)), (34, .int .i64 n), (39, .int .i64 ((E.getD i.toNat (0, 0)).2)), (44, .int .i64 ((E.getD i.toNat (0, 0)).2)), (46, .int .i64 n)] [(1, .pointer (some ⟨b2, 0, none⟩)), (21, ve), (22, .int .i64 (E.length : Int)), (23, .int .i64 i), (48, .bool ((((decide ((E.getD i.toNat (0, 0)).1 < 0)) || (decide (n ≤ (E.getD i.toNat (0, 0)).1))) || (decide ((E.getD i.toNat (0, 0)).2 < 0))) || (decide (n ≤ (E.getD i.toNat (0, 0)).2))))] ((0 < Try.prog.cellsOf 3) ∧ (CellOk (On w31) b29 (0 + 0) (.int .i64 ((E.getD i.toNat (0, 0)).1))) ∧ (True) ∧ (True) ∧ ((decide ((E.getD i.toNat (0, 0)).1 < 0)) = false → 0 < Try.prog.cellsOf 3) ∧ ((decide ((E.getD i.toNat (0, 0)).1 < 0)) = false → CellOk (On w31) b29 (0 + 0) (.int .i64 ((E.getD i.toNat (0, 0)).1))) ∧ ((decide ((E.getD i.toNat (0, 0)).1 < 0)) = false → 0 < Try.prog.cellsOf 3) ∧ ((decide ((E.getD i.toNat (0, 0)).1 < 0)) = false → CellOk (On w31) b2 (0 + 0) (.int .i64 n)) ∧ ((decide ((E.getD i.toNat (0, 0)).1 < 0)) = false → True) ∧ (True) ∧ (True) ∧ (((decide ((E.getD i.toNat (0, 0)).1 < 0)) || (decide (n ≤ (E.getD i.toNat (0, 0)).1))) = false → 0 < Try.prog.cellsOf 3) ∧ (((decide ((E.getD i.toNat (0, 0)).1 < 0)) || (decide (n ≤ (E.getD i.toNat (0, 0)).1))) = false → CellOk (On w31) b29 (0 + 1) (.int .i64 ((E.getD i.toNat (0, 0)).2))) ∧ (((decide ((E.getD i.toNat (0, 0)).1 < 0)) || (decide (n ≤ (E.getD i.toNat (0, 0)).1))) = false → True) ∧ (True) ∧ (True) ∧ ((((decide ((E.getD i.toNat (0, 0)).1 < 0)) || (decide (n ≤ (E.getD i.toNat (0, 0)).1))) || (decide ((E.getD i.toNat (0, 0)).2 < 0))) = false → 0 < Try.prog.cellsOf 3) ∧ ((((decide ((E.getD i.toNat (0, 0)).1 < 0)) || (decide (n ≤ (E.getD i.toNat (0, 0)).1))) || (decide ((E.getD i.toNat (0, 0)).2 < 0))) = false → CellOk (On w31) b29 (0 + 1) (.int .i64 ((E.getD i.toNat (0, 0)).2))) ∧ ((((decide ((E.getD i.toNat (0, 0)).1 < 0)) || (decide (n ≤ (E.getD i.toNat (0, 0)).1))) || (decide ((E.getD i.toNat (0, 0)).2 < 0))) = false → 0 < Try.prog.cellsOf 3) ∧ ((((decide ((E.getD i.toNat (0, 0)).1 < 0)) || (decide (n ≤ (E.getD i.toNat (0, 0)).1))) || (decide ((E.getD i.toNat (0, 0)).2 < 0))) = false → CellOk (On w31) b2 (0 + 0) (.int .i64 n)) ∧ ((((decide ((E.getD i.toNat (0, 0)).1 < 0)) || (decide (n ≤ (E.getD i.toNat (0, 0)).1))) || (decide ((E.getD i.toNat (0, 0)).2 < 0))) = false → True) ∧ (True) ∧ True) hA H ⟨by decide +kernel, by exact box_cell H 0 rfl 0, trivial, trivial, fun _ => by decide +kernel, fun _ => by exact box_cell H 0 rfl 0, fun _ => by decide +kernel, fun _ => by exact box_cell H 1 rfl 0, fun _ => trivial, trivial, trivial, fun _ => by decide +kernel, fun _ => by exact box_cell H 0 rfl 1, fun _ => trivial, trivial, trivial, fun _ => by decide +kernel, fun _ => by exact box_cell H 0 rfl 1, fun _ => by decide +kernel, fun _ => by exact box_cell H 1 rfl 0, fun _ => trivial, trivial, trivial⟩ fun a w33 hA H hG => ?_
        refine hK32 _ _ ?_
        refine go_cond hA (.tmp 48) ((((decide ((E.getD i.toNat (0, 0)).1 < 0)) || (decide (n ≤ (E.getD i.toNat (0, 0)).1))) || (decide ((E.getD i.toNat (0, 0)).2 < 0))) || (decide (n ≤ (E.getD i.toNat (0, 0)).2))) (fun hb34 => ?_) (fun hb34 => ?_)
        · have hhb34 := (oT hb34).imp (fun h => (oT h).imp (fun h => (oT h).imp (fun h => of_decide_eq_true h) (fun h => of_decide_eq_true h)) (fun h => of_decide_eq_true h)) (fun h => of_decide_eq_true h)
          refine go_seq fun K35 hK35 => ?_
          refine q_reg [] [(2, .int .i64 3)] ((True) ∧ True) hA H ⟨trivial, trivial⟩ fun a w36 hA H hG => ?_
          refine hK35 _ _ ?_
          refine go_ret_ ?_
          refine ret_one 2 (.int .i64 3) hA ?_
          exact ans_i' ((rightE_bad (by omega) (by omega) (by omega) h0 (by omega) (by unfold okE; have := hhb34; omega)).symm) H.below
        · have hhb34 := (⟨(⟨(⟨of_decide_eq_false ((oF ((oF ((oF hb34).1)).1)).1), of_decide_eq_false ((oF ((oF ((oF hb34).1)).1)).2)⟩ : _ ∧ _), of_decide_eq_false ((oF ((oF hb34).1)).2)⟩ : _ ∧ _), of_decide_eq_false ((oF hb34).2)⟩ : _ ∧ _)
          refine go_skip ?_
          refine hK26 _ _ ?_
          refine q_reg [] [(1, .pointer (some ⟨b2, 0, none⟩)), (21, ve), (22, .int .i64 (E.length : Int)), (23, .int .i64 (i + 1))] ((InR .i64 (i + 1)) ∧ (True) ∧ True) hA H ⟨⟨by omega, by omega⟩, trivial, trivial⟩ fun a w37 hA H hG => ?_
          replace H := H.drop 0
          refine ⟨(i + 1), ⟨env_sub _ hA, ⟨_, H⟩, ?_⟩, ?_⟩
          · (try dsimp only); exact ⟨by omega, fun j hj => if e : (j : Int) = i then (by rw [show j = i.toNat by omega]; unfold okE; have := hhb34; omega) else hok j (by omega)⟩
          · (try dsimp only); omega
      · have hhb25 := of_decide_eq_false hb25
        refine go_exit 0 ?_
        refine hK17 _ _ ?_
        refine go_seq fun K38 hK38 => ?_
        refine q_reg [] [(2, .int .i64 0)] ((True) ∧ True) hA H ⟨trivial, trivial⟩ fun a w39 hA H hG => ?_
        refine hK38 _ _ ?_
        refine go_ret_ ?_
        refine ret_one 2 (.int .i64 0) hA ?_
        exact ans_i' ((rightE_ok (by omega) (by omega) (by omega) (by omega) hok).symm) H.below

set_option maxRecDepth 100000 in
set_option maxHeartbeats 1000000 in
theorem rising_any (v : Value) (l : List Int) (n : Int) (w : World) (hl : Rd (· < w.heap.size) w v l) :
  Calls Try.prog 73 [v, .int .i64 n].toArray w (Ans (.bool (decide (risesP l n))) w) := by
  have hlen := rd_len hl
  refine enter Try.f73 35 Try.func73 fun a hA => ?_
  replace hA := env_sub [(0, v), (1, .int .i64 n)] hA
  have H := Fr.start (org w)
  refine go_seq fun K1 hK1 => ?_
  refine q_reg [] [(0, v), (1, .int .i64 n)] ((True) ∧ True) hA H ⟨trivial, trivial⟩ fun a w2 hA H hG => ?_
  refine hK1 _ _ ?_
  refine go_seq fun K3 hK3 => ?_
  refine go_seq fun K4 hK4 => ?_
  refine q_reg [(8, .int .i64 (l.length : Int))] [(0, v), (1, .int .i64 n), (7, v), (8, .int .i64 (l.length : Int)), (9, .int .i64 0)] ((True) ∧ (LenOk v (l.length : Int)) ∧ (True) ∧ True) hA H ⟨trivial, by exact len_ok (H.arg hl), trivial, trivial⟩ fun a w5 hA H hG => ?_
  refine hK4 _ _ ?_
  refine go_block 0 ?_
  refine go_loop_ (Int) (fun x_ a W => (fun (i : Int) => EnvOk 35 a (keepEnv [(0, v), (1, .int .i64 n), (7, v), (8, .int .i64 (l.length : Int)), (9, .int .i64 i)]) ∧ (∃ S, Fr (org w) W S []) ∧ 0 ≤ i ∧ ∀ j : Nat, (j : Int) < i → 0 ≤ l.getD j 0 ∧ l.getD j 0 < n ∧ (0 < j → l.getD (j - 1) 0 < l.getD j 0)) x_) (fun x_ => (fun (i : Int) => ((l.length : Int) - i).toNat) x_) (0) ?_ (fun i a w7 hI => ?_)
  · (try dsimp only); exact ⟨env_sub _ hA, ⟨_, H⟩, by omega, fun j hj => by omega⟩
  obtain ⟨hA, ⟨S, H⟩, h0, hok⟩ := hI
  try dsimp only at h0 hok
  refine go_seq fun K8 hK8 => ?_
  refine q_reg [] [(0, v), (1, .int .i64 n), (7, v), (8, .int .i64 (l.length : Int)), (9, .int .i64 i), (10, .bool (decide (i < (l.length : Int))))] ((True) ∧ True) hA H ⟨trivial, trivial⟩ fun a w9 hA H hG => ?_
  refine hK8 _ _ ?_
  refine go_seq fun K10 hK10 => ?_
  refine go_cond hA (.tmp 10) (decide (i < (l.length : Int))) (fun hb11 => ?_) (fun hb11 => ?_)
  · have hhb11 := of_decide_eq_true hb11
    refine go_skip ?_
    refine hK10 _ _ ?_
    refine go_seq fun K12 hK12 => ?_
    refine go_block 1 ?_
    refine go_seq fun K13 hK13 => ?_
    refine q_reg [(13, .int .i64 (l.getD i.toNat 0))] [(0, v), (1, .int .i64 n), (5, .int .i64 i), (6, .int .i64 (l.getD i.toNat 0)), (7, v), (8, .int .i64 (l.length : Int)), (9, .int .i64 i)] ((True) ∧ ((Try.prog.info? 3).isSome = true ∧ IdxOk v i) ∧ (CellOk (On w9) (hdB v) (hdO v + i.toNat * 1) (.int .i64 (l.getD i.toNat 0))) ∧ (True) ∧ (True) ∧ True) hA H ⟨trivial, ⟨by kernel_rfl, by exact idx_ok (H.arg hl) (by omega) (by omega)⟩, by exact cell_flat (i := i) (H.arg hl) (by omega) (by omega) 0 0, trivial, trivial, trivial⟩ fun a w14 hA H hG => ?_
    refine hK13 _ _ ?_
    refine go_seq fun K15 hK15 => ?_
    refine q_reg [(30, .int .i64 (l.getD (i - 1).toNat 0))] [(0, v), (1, .int .i64 n), (7, v), (8, .int .i64 (l.length : Int)), (9, .int .i64 i), (33, .bool (((decide ((l.getD i.toNat 0) < 0)) || (decide (n ≤ (l.getD i.toNat 0)))) || ((decide ((0 : Int) < i)) && (decide ((l.getD i.toNat 0) ≤ (l.getD (i - 1).toNat 0))))))] ((True) ∧ (True) ∧ (True) ∧ ((decide ((l.getD i.toNat 0) < 0)) = false → True) ∧ ((decide ((l.getD i.toNat 0) < 0)) = false → True) ∧ ((decide ((l.getD i.toNat 0) < 0)) = false → True) ∧ (True) ∧ (True) ∧ (((decide ((l.getD i.toNat 0) < 0)) || (decide (n ≤ (l.getD i.toNat 0)))) = false → True) ∧ (((decide ((l.getD i.toNat 0) < 0)) || (decide (n ≤ (l.getD i.toNat 0)))) = false → True) ∧ (((decide ((l.getD i.toNat 0) < 0)) || (decide (n ≤ (l.getD i.toNat 0)))) = false → True) ∧ (((decide ((l.getD i.toNat 0) < 0)) || (decide (n ≤ (l.getD i.toNat 0)))) = false → (decide ((0 : Int) < i)) = true → True) ∧ (((decide ((l.getD i.toNat 0) < 0)) || (decide (n ≤ (l.getD i.toNat 0)))) = false → (decide ((0 : Int) < i)) = true → True) ∧ (((decide ((l.getD i.toNat 0) < 0)) || (decide (n ≤ (l.getD i.toNat 0)))) = false → (decide ((0 : Int) < i)) = true → True) ∧ (((decide ((l.getD i.toNat 0) < 0)) || (decide (n ≤ (l.getD i.toNat 0)))) = false → (decide ((0 : Int) < i)) = true → InR .i64 (i - 1)) ∧ (((decide ((l.getD i.toNat 0) < 0)) || (decide (n ≤ (l.getD i.toNat 0)))) = false → (decide ((0 : Int) < i)) = true → (Try.prog.info? 3).isSome = true ∧ IdxOk v (i - 1)) ∧ (((decide ((l.getD i.toNat 0) < 0)) || (decide (n ≤ (l.getD i.toNat 0)))) = false → (decide ((0 : Int) < i)) = true → CellOk (On w14) (hdB v) (hdO v + (i - 1).toNat * 1) (.int .i64 (l.getD (i - 1).toNat 0))) ∧ (((decide ((l.getD i.toNat 0) < 0)) || (decide (n ≤ (l.getD i.toNat 0)))) = false → (decide ((0 : Int) < i)) = true → True) ∧ (((decide ((l.getD i.toNat 0) < 0)) || (decide (n ≤ (l.getD i.toNat 0)))) = false → True) ∧ (True) ∧ True) hA H ⟨trivial, trivial, trivial, fun _ => trivial, fun _ => trivial, fun _ => trivial, trivial, trivial, fun _ => trivial, fun _ => trivial, fun _ => trivial, fun _ _ => trivial, fun _ _ => trivial, fun _ _ => trivial, fun hg0 hg1 => by replace hg0 := (⟨of_decide_eq_false ((oF hg0).1), of_decide_eq_false ((oF hg0).2)⟩ : _ ∧ _); replace hg1 := of_decide_eq_true hg1; exact ⟨by omega, by omega⟩, fun hg0 hg1 => by replace hg0 := (⟨of_decide_eq_false ((oF hg0).1), of_decide_eq_false ((oF hg0).2)⟩ : _ ∧ _); replace hg1 := of_decide_eq_true hg1; exact ⟨by kernel_rfl, by exact idx_ok (H.arg hl) (by omega) (by omega)⟩, fun hg0 hg1 => by replace hg0 := (⟨of_decide_eq_false ((oF hg0).1), of_decide_eq_false ((oF hg0).2)⟩ : _ ∧ _); replace hg1 := of_decide_eq_true hg1; exact by exact cell_flat (i := i - 1) (H.arg hl) (by omega) (by omega) 0 0, fun _ _ => trivial, fun _ => trivial, trivial, trivial⟩ fun a w16 hA H hG => ?_
    refine hK15 _ _ ?_
    refine go_cond hA (.tmp 33) (((decide ((l.getD i.toNat 0) < 0)) || (decide (n ≤ (l.getD i.toNat 0)))) || ((decide ((0 : Int) < i)) && (decide ((l.getD i.toNat 0) ≤ (l.getD (i - 1).toNat 0))))) (fun hb17 => ?_) (fun hb17 => ?_)
    · have hhb17 := (oT hb17).imp (fun h => (oT h).imp (fun h => of_decide_eq_true h) (fun h => of_decide_eq_true h)) (fun h => (⟨of_decide_eq_true ((aT h).1), of_decide_eq_true ((aT h).2)⟩ : _ ∧ _))
      refine go_seq fun K18 hK18 => ?_
      refine q_reg [] [(4, .bool false)] ((True) ∧ True) hA H ⟨trivial, trivial⟩ fun a w19 hA H hG => ?_
      refine hK18 _ _ ?_
      refine go_ret_ ?_
      refine ret_one 4 (.bool false) hA ?_
      exact ans_b' ((decide_eq_false (fun q => by have := q i.toNat (by omega); have z := hhb17; rw [show (i - 1).toNat = i.toNat - 1 by omega] at z; omega)).symm) H.below
    · have hhb17 := (⟨(⟨of_decide_eq_false ((oF ((oF hb17).1)).1), of_decide_eq_false ((oF ((oF hb17).1)).2)⟩ : _ ∧ _), (aF ((oF hb17).2)).imp (fun h => of_decide_eq_false h) (fun h => of_decide_eq_false h)⟩ : _ ∧ _)
      refine go_skip ?_
      refine hK12 _ _ ?_
      refine q_reg [] [(0, v), (1, .int .i64 n), (7, v), (8, .int .i64 (l.length : Int)), (9, .int .i64 (i + 1))] ((InR .i64 (i + 1)) ∧ (True) ∧ True) hA H ⟨⟨by omega, by omega⟩, trivial, trivial⟩ fun a w20 hA H hG => ?_
      refine ⟨(i + 1), ⟨env_sub _ hA, ⟨_, H⟩, ?_⟩, ?_⟩
      · (try dsimp only); exact ⟨by omega, fun j hj => if e : (j : Int) = i then (by have q := hhb17; rw [show j = i.toNat by omega]; rw [show (i - 1).toNat = i.toNat - 1 by omega] at q; omega) else hok j (by omega)⟩
      · (try dsimp only); omega
  · have hhb11 := of_decide_eq_false hb11
    refine go_exit 0 ?_
    refine hK3 _ _ ?_
    refine go_seq fun K21 hK21 => ?_
    refine q_reg [] [(4, .bool true)] ((True) ∧ True) hA H ⟨trivial, trivial⟩ fun a w22 hA H hG => ?_
    refine hK21 _ _ ?_
    refine go_ret_ ?_
    refine ret_one 4 (.bool true) hA ?_
    exact ans_b' ((decide_eq_true (fun j hj => hok j (by omega))).symm) H.below

set_option maxRecDepth 100000 in
set_option maxHeartbeats 1000000 in
theorem isNaN_any (x : Int) (w : World) :
  Calls Try.prog 101 [.int .i64 x].toArray w (Ans (.bool false) w) := by
  refine enter Try.f101 6 Try.func101 fun a hA => ?_
  replace hA := env_sub [(0, .int .i64 x)] hA
  have H := Fr.start (org w)
  refine go_seq fun K1 hK1 => ?_
  refine q_reg [] [(0, .int .i64 x)] ((True) ∧ True) hA H ⟨trivial, trivial⟩ fun a w2 hA H hG => ?_
  refine hK1 _ _ ?_
  refine go_seq fun K3 hK3 => ?_
  refine q_reg [] [(2, .bool (!decide (x = x)))] ((True) ∧ (True) ∧ (True) ∧ (True) ∧ True) hA H ⟨trivial, trivial, trivial, trivial, trivial⟩ fun a w4 hA H hG => ?_
  refine hK3 _ _ ?_
  refine go_ret_ ?_
  refine ret_one 2 (.bool (!decide (x = x))) hA ?_
  exact ans_b' (by simp) H.below

set_option maxRecDepth 100000 in
set_option maxHeartbeats 1000000 in
theorem cmpNaN_any (x : Int) (w : World) :
  Calls Try.prog 127 [.int .i64 x].toArray w (Ans (.bool false) w) := by
  refine enter Try.f127 6 Try.func127 fun a hA => ?_
  replace hA := env_sub [(0, .int .i64 x)] hA
  have H := Fr.start (org w)
  refine go_seq fun K1 hK1 => ?_
  refine q_reg [] [(0, .int .i64 x)] ((True) ∧ True) hA H ⟨trivial, trivial⟩ fun a w2 hA H hG => ?_
  refine hK1 _ _ ?_
  refine go_seq fun K3 hK3 => ?_
  refine q_reg [] [(2, .bool (!decide (x = x)))] ((True) ∧ (True) ∧ (True) ∧ (True) ∧ True) hA H ⟨trivial, trivial, trivial, trivial, trivial⟩ fun a w4 hA H hG => ?_
  refine hK3 _ _ ?_
  refine go_ret_ ?_
  refine ret_one 2 (.bool (!decide (x = x))) hA ?_
  exact ans_b' (by simp) H.below

set_option maxRecDepth 100000 in
set_option maxHeartbeats 1000000 in
theorem less_any (x y : Int) (w : World) :
  Calls Try.prog 100 [.int .i64 x, .int .i64 y].toArray w (Ans (.bool (decide (x < y))) w) := by
  refine enter Try.f100 17 Try.func100 fun a hA => ?_
  replace hA := env_sub [(0, .int .i64 x), (1, .int .i64 y)] hA
  have H := Fr.start (org w)
  refine go_seq fun K1 hK1 => ?_
  refine q_reg [] [(0, .int .i64 x), (1, .int .i64 y)] ((True) ∧ True) hA H ⟨trivial, trivial⟩ fun a w2 hA H hG => ?_
  refine hK1 _ _ ?_
  refine go_seq fun K3 hK3 => ?_
  refine q_reg [(6, .bool false), (9, .bool false)] [(4, .bool ((false && true) || (decide (x < y))))] ((True) ∧ (Callable Try.prog 127 ∧ CallOk Try.prog (On w2) 127 [.int .i64 x].toArray (.bool false)) ∧ (True) ∧ ((false) = true → True) ∧ ((false) = true → Callable Try.prog 127 ∧ CallOk Try.prog (On w2) 127 [.int .i64 y].toArray (.bool false)) ∧ ((false) = true → True) ∧ (True) ∧ (True) ∧ ((false && true) = false → True) ∧ ((false && true) = false → True) ∧ ((false && true) = false → True) ∧ (True) ∧ (True) ∧ True) hA H ⟨trivial, ⟨callable_of, callOk_of fun w hw => by exact cmpNaN_any x w⟩, trivial, fun _ => trivial, fun _ => ⟨callable_of, callOk_of fun w hw => by exact cmpNaN_any y w⟩, fun _ => trivial, trivial, trivial, fun _ => trivial, fun _ => trivial, fun _ => trivial, trivial, trivial, trivial⟩ fun a w4 hA H hG => ?_
  refine hK3 _ _ ?_
  refine go_ret_ ?_
  refine ret_one 4 (.bool ((false && true) || (decide (x < y)))) hA ?_
  exact ans_b' (by simp) H.below

set_option maxRecDepth 100000 in
set_option maxHeartbeats 1000000 in
theorem bs_any (v : Value) (l : List Int) (x : Int) (w : World) (hl : Rd (· < w.heap.size) w v l) (hs : l.length ≤ 1000000000000) :
  Calls Try.prog 77 [v, .int .i64 x].toArray w (Ans (.tuple #[.int .i64 (bsI l x), .bool (hasB l x)]) w) := by
  have hlen := rd_len hl
  refine enter Try.f77 54 Try.func77 fun a hA => ?_
  replace hA := env_sub [(0, v), (1, .int .i64 x)] hA
  have H := Fr.start (org w)
  refine go_seq fun K1 hK1 => ?_
  refine q_reg [] [(0, v), (1, .int .i64 x)] ((True) ∧ (True) ∧ True) hA H ⟨trivial, trivial, trivial⟩ fun a w2 hA H hG => ?_
  refine hK1 _ _ ?_
  refine go_seq fun K3 hK3 => ?_
  refine q_reg [(11, .int .i64 (l.length : Int))] [(0, v), (1, .int .i64 x), (6, .int .i64 (l.length : Int))] ((True) ∧ (LenOk v (l.length : Int)) ∧ (True) ∧ True) hA H ⟨trivial, by exact len_ok (H.arg hl), trivial, trivial⟩ fun a w4 hA H hG => ?_
  refine hK3 _ _ ?_
  refine go_seq fun K5 hK5 => ?_
  refine q_reg [] [(0, v), (1, .int .i64 x), (6, .int .i64 (l.length : Int)), (7, .int .i64 0), (8, .int .i64 (l.length : Int))] ((True) ∧ (True) ∧ (True) ∧ True) hA H ⟨trivial, trivial, trivial, trivial⟩ fun a w6 hA H hG => ?_
  refine hK5 _ _ ?_
  refine go_seq fun K7 hK7 => ?_
  refine go_block 0 ?_
  refine go_loop_ (Int × Int) (fun x_ a W => (fun (p : Int) (q : Int) => EnvOk 54 a (keepEnv [(0, v), (1, .int .i64 x), (6, .int .i64 (l.length : Int)), (7, .int .i64 p), (8, .int .i64 q)]) ∧ (∃ S, Fr (org w) W S []) ∧ 0 ≤ p ∧ p ≤ q ∧ q ≤ (l.length : Int) ∧ bsW l x p q = bsI l x) x_.1 x_.2) (fun x_ => (fun (p : Int) (q : Int) => (q - p).toNat) x_.1 x_.2) (0, (l.length : Int)) ?_ (fun x_ a w9 hI => ?_)
  · (try dsimp only); exact ⟨env_sub _ hA, ⟨_, H⟩, by omega, by omega, by omega, bsI_W l x⟩
  obtain ⟨p, q⟩ := x_
  obtain ⟨hA, ⟨S, H⟩, h1, h2, h3, hb⟩ := hI
  try dsimp only at h1 h2 h3 hb
  refine go_seq fun K10 hK10 => ?_
  refine go_seq fun K11 hK11 => ?_
  refine q_reg [] [(0, v), (1, .int .i64 x), (6, .int .i64 (l.length : Int)), (7, .int .i64 p), (8, .int .i64 q), (15, .bool (decide (p < q)))] ((True) ∧ (True) ∧ (True) ∧ True) hA H ⟨trivial, trivial, trivial, trivial⟩ fun a w12 hA H hG => ?_
  refine hK11 _ _ ?_
  refine go_cond hA (.tmp 15) (decide (p < q)) (fun hb13 => ?_) (fun hb13 => ?_)
  · have hhb13 := of_decide_eq_true hb13
    refine go_skip ?_
    refine hK10 _ _ ?_
    refine go_block 1 ?_
    refine go_seq fun K14 hK14 => ?_
    refine q_reg [(20, .int .u64 ((p + q) / 2))] [(0, v), (1, .int .i64 x), (6, .int .i64 (l.length : Int)), (7, .int .i64 p), (8, .int .i64 q), (9, .int .i64 ((p + q) / 2))] ((True) ∧ (True) ∧ (InR .i64 (p + q)) ∧ (InR .u64 (p + q)) ∧ (0 ≤ (1 : Int) ∧ (p + q).fdiv (2 ^ (min (1 : Int).toNat (IntKind.bits .u64))) = (p + q) / 2) ∧ (InR .i64 ((p + q) / 2)) ∧ (True) ∧ True) hA H ⟨trivial, trivial, ⟨by omega, by omega⟩, ⟨by omega, by omega⟩, shr_one (by decide), ⟨by omega, by omega⟩, trivial, trivial⟩ fun a w15 hA H hG => ?_
    refine hK14 _ _ ?_
    refine go_seq fun K16 hK16 => ?_
    refine q_reg [(25, .int .i64 (l.getD ((p + q) / 2).toNat 0)), (27, .bool (decide ((l.getD ((p + q) / 2).toNat 0) < x)))] [(0, v), (1, .int .i64 x), (6, .int .i64 (l.length : Int)), (7, .int .i64 p), (8, .int .i64 q), (9, .int .i64 ((p + q) / 2)), (27, .bool (decide ((l.getD ((p + q) / 2).toNat 0) < x)))] ((True) ∧ (True) ∧ ((Try.prog.info? 3).isSome = true ∧ IdxOk v ((p + q) / 2)) ∧ (CellOk (On w15) (hdB v) (hdO v + ((p + q) / 2).toNat * 1) (.int .i64 (l.getD ((p + q) / 2).toNat 0))) ∧ (True) ∧ (Callable Try.prog 100 ∧ CallOk Try.prog (On w15) 100 [.int .i64 (l.getD ((p + q) / 2).toNat 0), .int .i64 x].toArray (.bool (decide ((l.getD ((p + q) / 2).toNat 0) < x)))) ∧ True) hA H ⟨trivial, trivial, ⟨by kernel_rfl, by exact idx_ok (H.arg hl) (by omega) (by omega)⟩, by exact cell_flat (i := (p + q) / 2) (H.arg hl) (by omega) (by omega) 0 0, trivial, ⟨callable_of, callOk_of fun w hw => by exact less_any (l.getD ((p + q) / 2).toNat 0) x w⟩, trivial⟩ fun a w17 hA H hG => ?_
    refine hK16 _ _ ?_
    refine go_cond hA (.tmp 27) (decide ((l.getD ((p + q) / 2).toNat 0) < x)) (fun hb18 => ?_) (fun hb18 => ?_)
    · have hhb18 := of_decide_eq_true hb18
      refine q_reg [] [(0, v), (1, .int .i64 x), (6, .int .i64 (l.length : Int)), (7, .int .i64 (((p + q) / 2) + 1)), (8, .int .i64 q)] ((True) ∧ (InR .i64 (((p + q) / 2) + 1)) ∧ (True) ∧ True) hA H ⟨trivial, ⟨by omega, by omega⟩, trivial, trivial⟩ fun a w19 hA H hG => ?_
      refine ⟨(((p + q) / 2) + 1, q), ⟨env_sub _ hA, ⟨_, H⟩, ?_⟩, ?_⟩
      · (try dsimp only); exact ⟨by omega, by omega, by omega, by rw [bsW_T (by omega) hhb18] at hb; exact hb⟩
      · (try dsimp only); omega
    · have hhb18 := of_decide_eq_false hb18
      refine q_reg [] [(0, v), (1, .int .i64 x), (6, .int .i64 (l.length : Int)), (7, .int .i64 p), (8, .int .i64 ((p + q) / 2))] ((True) ∧ (True) ∧ True) hA H ⟨trivial, trivial, trivial⟩ fun a w20 hA H hG => ?_
      refine ⟨(p, (p + q) / 2), ⟨env_sub _ hA, ⟨_, H⟩, ?_⟩, ?_⟩
      · (try dsimp only); exact ⟨by omega, by omega, by omega, by rw [bsW_F (by omega) hhb18] at hb; exact hb⟩
      · (try dsimp only); omega
  · have hhb13 := of_decide_eq_false hb13
    refine go_exit 0 ?_
    refine hK7 _ _ ?_
    refine go_seq fun K21 hK21 => ?_
    refine q_reg [(39, .int .i64 (l.getD p.toNat 0)), (46, .int .i64 (l.getD p.toNat 0)), (47, .bool false), (50, .bool false)] [(4, .int .i64 p), (5, .bool ((decide (p < (l.length : Int))) && ((decide ((l.getD p.toNat 0) = x)) || (false && false))))] ((True) ∧ (True) ∧ (True) ∧ (True) ∧ (True) ∧ ((decide (p < (l.length : Int))) = true → True) ∧ ((decide (p < (l.length : Int))) = true → True) ∧ ((decide (p < (l.length : Int))) = true → (Try.prog.info? 3).isSome = true ∧ IdxOk v p) ∧ ((decide (p < (l.length : Int))) = true → CellOk (On w12) (hdB v) (hdO v + p.toNat * 1) (.int .i64 (l.getD p.toNat 0))) ∧ ((decide (p < (l.length : Int))) = true → True) ∧ ((decide (p < (l.length : Int))) = true → True) ∧ ((decide (p < (l.length : Int))) = true → True) ∧ ((decide (p < (l.length : Int))) = true → (decide ((l.getD p.toNat 0) = x)) = false → True) ∧ ((decide (p < (l.length : Int))) = true → (decide ((l.getD p.toNat 0) = x)) = false → True) ∧ ((decide (p < (l.length : Int))) = true → (decide ((l.getD p.toNat 0) = x)) = false → (Try.prog.info? 3).isSome = true ∧ IdxOk v p) ∧ ((decide (p < (l.length : Int))) = true → (decide ((l.getD p.toNat 0) = x)) = false → CellOk (On w12) (hdB v) (hdO v + p.toNat * 1) (.int .i64 (l.getD p.toNat 0))) ∧ ((decide (p < (l.length : Int))) = true → (decide ((l.getD p.toNat 0) = x)) = false → Callable Try.prog 101 ∧ CallOk Try.prog (On w12) 101 [.int .i64 (l.getD p.toNat 0)].toArray (.bool false)) ∧ ((decide (p < (l.length : Int))) = true → (decide ((l.getD p.toNat 0) = x)) = false → True) ∧ ((decide (p < (l.length : Int))) = true → (decide ((l.getD p.toNat 0) = x)) = false → (false) = true → True) ∧ ((decide (p < (l.length : Int))) = true → (decide ((l.getD p.toNat 0) = x)) = false → (false) = true → Callable Try.prog 101 ∧ CallOk Try.prog (On w12) 101 [.int .i64 x].toArray (.bool false)) ∧ ((decide (p < (l.length : Int))) = true → (decide ((l.getD p.toNat 0) = x)) = false → True) ∧ ((decide (p < (l.length : Int))) = true → True) ∧ (True) ∧ (True) ∧ (True) ∧ True) hA H ⟨trivial, trivial, trivial, trivial, trivial, fun _ => trivial, fun _ => trivial, fun hg0 => by replace hg0 := of_decide_eq_true hg0; exact ⟨by kernel_rfl, by exact idx_ok (H.arg hl) (by omega) (by omega)⟩, fun hg0 => by replace hg0 := of_decide_eq_true hg0; exact by exact cell_flat (i := p) (H.arg hl) (by omega) (by omega) 0 0, fun _ => trivial, fun _ => trivial, fun _ => trivial, fun _ _ => trivial, fun _ _ => trivial, fun hg0 hg1 => by replace hg0 := of_decide_eq_true hg0; replace hg1 := of_decide_eq_false hg1; exact ⟨by kernel_rfl, by exact idx_ok (H.arg hl) (by omega) (by omega)⟩, fun hg0 hg1 => by replace hg0 := of_decide_eq_true hg0; replace hg1 := of_decide_eq_false hg1; exact by exact cell_flat (i := p) (H.arg hl) (by omega) (by omega) 0 0, fun _ _ => ⟨callable_of, callOk_of fun w hw => by exact isNaN_any (l.getD p.toNat 0) w⟩, fun _ _ => trivial, fun _ _ _ => trivial, fun _ _ _ => ⟨callable_of, callOk_of fun w hw => by exact isNaN_any x w⟩, fun _ _ => trivial, fun _ => trivial, trivial, trivial, trivial, trivial⟩ fun a w22 hA H hG => ?_
    refine hK21 _ _ ?_
    refine go_ret_ ?_
    refine ret_two 4 5 (.int .i64 p) (.bool ((decide (p < (l.length : Int))) && ((decide ((l.getD p.toNat 0) = x)) || (false && false)))) hA ?_
    rw [bsW_end (by omega)] at hb
    exact ans_ib (by rw [hb]; refine ⟨rfl, ?_⟩; unfold hasB; simp) H.below

set_option maxRecDepth 100000 in
set_option maxHeartbeats 1000000 in
theorem has_any (v : Value) (l : List Int) (x : Int) (w : World) (hl : Rd (· < w.heap.size) w v l) (hs : l.length ≤ 1000000000000) :
  Calls Try.prog 39 [v, .int .i64 x].toArray w (Ans (.bool (hasB l x)) w) := by
  refine enter Try.f39 14 Try.func39 fun a hA => ?_
  replace hA := env_sub [(0, v), (1, .int .i64 x)] hA
  have H := Fr.start (org w)
  refine go_seq fun K1 hK1 => ?_
  refine q_reg [] [(0, v), (1, .int .i64 x)] ((True) ∧ True) hA H ⟨trivial, trivial⟩ fun a w2 hA H hG => ?_
  refine hK1 _ _ ?_
  refine go_seq fun K3 hK3 => ?_
  refine q_reg [(10, .tuple #[.int .i64 (bsI l x), .bool (hasB l x)])] [(6, .bool (hasB l x))] ((True) ∧ (True) ∧ (Callable Try.prog 77 ∧ CallOk Try.prog (On w2) 77 [v, .int .i64 x].toArray (.tuple #[.int .i64 (bsI l x), .bool (hasB l x)])) ∧ (True) ∧ (True) ∧ (True) ∧ (True) ∧ (True) ∧ True) hA H ⟨trivial, trivial, ⟨callable_of, callOk_of fun w hw => by exact bs_any v l x w ((H.on hw).arg hl) (by omega)⟩, trivial, trivial, trivial, trivial, trivial, trivial⟩ fun a w4 hA H hG => ?_
  refine hK3 _ _ ?_
  refine go_seq fun K5 hK5 => ?_
  refine q_reg [] [(4, .bool (hasB l x))] ((True) ∧ (True) ∧ True) hA H ⟨trivial, trivial, trivial⟩ fun a w6 hA H hG => ?_
  refine hK5 _ _ ?_
  refine go_ret_ ?_
  refine ret_one 4 (.bool (hasB l x)) hA ?_
  exact ans_b' rfl H.below

end Go.Proofs.Ytahonnlgkmimlaa

set_option linter.unusedSimpArgs false
set_option linter.unusedVariables false
namespace Go.Proofs.Ytahonnlgkmimlaa
open Go.RowKit

set_option maxRecDepth 100000 in
set_option maxHeartbeats 1000000 in
theorem rightPart_any (n : Int) (ve : Value) (E : List (Int × Int)) (vv vl : Value) (V L : List Int) (w : World) (hn : -9223372036854775808 ≤ n ∧ n ≤ 9223372036854775807) (hE : Rd (· < w.heap.size) w ve E) (hV : Rd (· < w.heap.size) w vv V) (hL : Rd (· < w.heap.size) w vl L) :
  Calls Try.prog 31 [.agg #[.int .i64 n, ve], .agg #[vv, vl]].toArray w (Ans (.int .i64 (partE n E V L)) w) := by
  refine enter Try.f31 58 Try.func31 fun a hA => ?_
  replace hA := env_sub [(0, .agg #[.int .i64 n, ve]), (1, .agg #[vv, vl])] hA
  have H := Fr.start (org w)
  refine go_seq fun K1 hK1 => ?_
  refine region_list ?_
  refine list_at 0 ?_; refine q_box 0 2 24 (.tmp 0) (.agg #[.int .i64 n, ve]) [.int .i64 n, ve] [(1, .agg #[vv, vl])] hA H fun b2 a w3 H hA hG hge_b2 => ?_
  clear hge_b2
  refine list_at 1 ?_; refine q_box 1 3 29 (.tmp 1) (.agg #[vv, vl]) [vv, vl] [(2, .pointer (some ⟨b2, 0, none⟩))] hA H fun b4 a w5 H hA hG hge_b4 => ?_
  clear hge_b4
  refine q_list 2 1 [] [(2, .pointer (some ⟨b2, 0, none⟩)), (3, .pointer (some ⟨b4, 0, none⟩))] ((True) ∧ True) hA H ⟨trivial, trivial⟩ fun a w6 hA H hG => ?_
  refine list_end ?_
  refine hK1 _ _ ?_
  refine go_seq fun K7 hK7 => ?_
  refine go_seq fun K8 hK8 => ?_
  refine q_reg [(8, .agg #[.int .i64 n, ve]), (9, .int .i64 (rightE n E))] [(2, .pointer (some ⟨b2, 0, none⟩)), (3, .pointer (some ⟨b4, 0, none⟩)), (5, .int .i64 (rightE n E))] (((Try.prog.info? 24).isSome = true ∧ RowOk (On w6) b2 (0) (Try.prog.cellsOf 24) #[.int .i64 n, ve]) ∧ (Callable Try.prog 20 ∧ CallOk Try.prog (On w6) 20 [.agg #[.int .i64 n, ve]].toArray (.int .i64 (rightE n E))) ∧ (True) ∧ True) hA H ⟨⟨by kernel_rfl, by exact box_row H 1 rfl 0 2⟩, ⟨callable_of, callOk_of fun w hw => by exact right_any n ve E w (by omega) ((H.on hw).arg hE)⟩, trivial, trivial⟩ fun a w9 hA H hG => ?_
  refine hK8 _ _ ?_
  refine go_seq fun K10 hK10 => ?_
  refine q_reg [] [(2, .pointer (some ⟨b2, 0, none⟩)), (3, .pointer (some ⟨b4, 0, none⟩)), (5, .int .i64 (rightE n E)), (11, .bool (!decide (rightE n E = 0)))] ((True) ∧ (True) ∧ True) hA H ⟨trivial, trivial, trivial⟩ fun a w11 hA H hG => ?_
  refine hK10 _ _ ?_
  refine go_cond hA (.tmp 11) (!decide (rightE n E = 0)) (fun hb12 => ?_) (fun hb12 => ?_)
  · have hhb12 := of_decide_eq_false (nT hb12)
    refine go_seq fun K13 hK13 => ?_
    refine q_reg [] [(4, .int .i64 (rightE n E))] ((True) ∧ (True) ∧ True) hA H ⟨trivial, trivial, trivial⟩ fun a w14 hA H hG => ?_
    refine hK13 _ _ ?_
    refine go_ret_ ?_
    refine ret_one 4 (.int .i64 (rightE n E)) hA ?_
    exact ans_i' (by unfold partE; rw [if_pos hhb12]) H.below
  · have hhb12 := of_decide_eq_true (nF hb12)
    refine go_skip ?_
    refine hK7 _ _ ?_
    refine go_seq fun K15 hK15 => ?_
    refine go_seq fun K16 hK16 => ?_
    refine q_reg [(14, vv), (16, .int .i64 n), (17, .bool (decide (risesP V n))), (21, vl), (23, ve), (24, .int .i64 (E.length : Int)), (25, .bool (decide (risesP L (E.length : Int))))] [(2, .pointer (some ⟨b2, 0, none⟩)), (3, .pointer (some ⟨b4, 0, none⟩)), (27, .bool ((!(decide (risesP V n))) || (!(decide (risesP L (E.length : Int))))))] ((0 < Try.prog.cellsOf 27) ∧ (CellOk (On w11) b4 (0 + 0) (vv)) ∧ (0 < Try.prog.cellsOf 3) ∧ (CellOk (On w11) b2 (0 + 0) (.int .i64 n)) ∧ (Callable Try.prog 73 ∧ CallOk Try.prog (On w11) 73 [vv, .int .i64 n].toArray (.bool (decide (risesP V n)))) ∧ (True) ∧ (True) ∧ ((!(decide (risesP V n))) = false → 0 < Try.prog.cellsOf 27) ∧ ((!(decide (risesP V n))) = false → CellOk (On w11) b4 (0 + 1) (vl)) ∧ ((!(decide (risesP V n))) = false → 0 < Try.prog.cellsOf 22) ∧ ((!(decide (risesP V n))) = false → CellOk (On w11) b2 (0 + 1) (ve)) ∧ ((!(decide (risesP V n))) = false → LenOk ve (E.length : Int)) ∧ ((!(decide (risesP V n))) = false → Callable Try.prog 73 ∧ CallOk Try.prog (On w11) 73 [vl, .int .i64 (E.length : Int)].toArray (.bool (decide (risesP L (E.length : Int))))) ∧ ((!(decide (risesP V n))) = false → True) ∧ (True) ∧ True) hA H ⟨by decide +kernel, by exact box_cell H 0 rfl 0, by decide +kernel, by exact box_cell H 1 rfl 0, ⟨callable_of, callOk_of fun w hw => by exact rising_any vv V n w ((H.on hw).arg hV)⟩, trivial, trivial, fun _ => by decide +kernel, fun _ => by exact box_cell H 0 rfl 1, fun _ => by decide +kernel, fun _ => by exact box_cell H 1 rfl 1, fun _ => by exact len_ok (H.arg hE), fun _ => ⟨callable_of, callOk_of fun w hw => by exact rising_any vl L (E.length : Int) w ((H.on hw).arg hL)⟩, fun _ => trivial, trivial, trivial⟩ fun a w17 hA H hG => ?_
    refine hK16 _ _ ?_
    refine go_cond hA (.tmp 27) ((!(decide (risesP V n))) || (!(decide (risesP L (E.length : Int))))) (fun hb18 => ?_) (fun hb18 => ?_)
    · have hhb18 := (oT hb18).imp (fun h => of_decide_eq_false (nT h)) (fun h => of_decide_eq_false (nT h))
      refine go_seq fun K19 hK19 => ?_
      refine q_reg [] [(4, .int .i64 4)] ((True) ∧ True) hA H ⟨trivial, trivial⟩ fun a w20 hA H hG => ?_
      refine hK19 _ _ ?_
      refine go_ret_ ?_
      refine ret_one 4 (.int .i64 4) hA ?_
      exact ans_i' (by unfold partE; rw [if_neg (by omega), if_pos hhb18]) H.below
    · have hhb18 := (⟨of_decide_eq_true (nF ((oF hb18).1)), of_decide_eq_true (nF ((oF hb18).2))⟩ : _ ∧ _)
      refine go_skip ?_
      refine hK15 _ _ ?_
      refine go_seq fun K21 hK21 => ?_
      refine go_seq fun K22 hK22 => ?_
      have hr0 := rightE_0 (n := n) (E := E) (by omega)
      obtain ⟨hr1, hr2⟩ := hhb18
      have hv9 := rises_len hr1 (by omega)
      have hl9 := rises_len hr2 (by omega)
      refine q_reg [(29, vl), (30, .int .i64 (L.length : Int))] [(2, .pointer (some ⟨b2, 0, none⟩)), (3, .pointer (some ⟨b4, 0, none⟩)), (29, vl), (30, .int .i64 (L.length : Int)), (31, .int .i64 0)] ((0 < Try.prog.cellsOf 27) ∧ (CellOk (On w17) b4 (0 + 1) (vl)) ∧ (LenOk vl (L.length : Int)) ∧ (True) ∧ True) hA H ⟨by decide +kernel, by exact box_cell H 0 rfl 1, by exact len_ok (H.arg hL), trivial, trivial⟩ fun a w23 hA H hG => ?_
      refine hK22 _ _ ?_
      refine go_block 0 ?_
      refine go_loop_ (Int) (fun x_ a W => (fun (i : Int) => EnvOk 58 a (keepEnv [(2, .pointer (some ⟨b2, 0, none⟩)), (3, .pointer (some ⟨b4, 0, none⟩)), (29, vl), (30, .int .i64 (L.length : Int)), (31, .int .i64 i)]) ∧ (∃ S, Fr (org w) W S [.box b4 29 [vv, vl], .box b2 24 [.int .i64 n, ve]]) ∧ 0 ≤ i ∧ ∀ j : Nat, (j : Int) < i → hasB V (E.getD (L.getD j 0).toNat (0, 0)).1 = true ∧ hasB V (E.getD (L.getD j 0).toNat (0, 0)).2 = true) x_) (fun x_ => (fun (i : Int) => ((L.length : Int) - i).toNat) x_) (0) ?_ (fun i a w25 hI => ?_)
      · (try dsimp only); exact ⟨env_sub _ hA, ⟨_, H⟩, by omega, fun j hj => by omega⟩
      obtain ⟨hA, ⟨S, H⟩, h0, hok⟩ := hI
      try dsimp only at h0 hok
      refine go_seq fun K26 hK26 => ?_
      refine q_reg [] [(2, .pointer (some ⟨b2, 0, none⟩)), (3, .pointer (some ⟨b4, 0, none⟩)), (29, vl), (30, .int .i64 (L.length : Int)), (31, .int .i64 i), (32, .bool (decide (i < (L.length : Int))))] ((True) ∧ True) hA H ⟨trivial, trivial⟩ fun a w27 hA H hG => ?_
      refine hK26 _ _ ?_
      refine go_seq fun K28 hK28 => ?_
      refine go_cond hA (.tmp 32) (decide (i < (L.length : Int))) (fun hb29 => ?_) (fun hb29 => ?_)
      · have hhb29 := of_decide_eq_true hb29
        refine go_skip ?_
        refine hK28 _ _ ?_
        refine go_seq fun K30 hK30 => ?_
        refine go_block 1 ?_
        refine go_seq fun K31 hK31 => ?_
        refine q_reg [(34, .int .i64 (L.getD i.toNat 0))] [(2, .pointer (some ⟨b2, 0, none⟩)), (3, .pointer (some ⟨b4, 0, none⟩)), (7, .int .i64 (L.getD i.toNat 0)), (29, vl), (30, .int .i64 (L.length : Int)), (31, .int .i64 i)] (((Try.prog.info? 3).isSome = true ∧ IdxOk vl i) ∧ (CellOk (On w27) (hdB vl) (hdO vl + i.toNat * 1) (.int .i64 (L.getD i.toNat 0))) ∧ (True) ∧ True) hA H ⟨⟨by kernel_rfl, by exact idx_ok (H.arg hL) (by omega) (by omega)⟩, by exact cell_flat (i := i) (H.arg hL) (by omega) (by omega) 0 0, trivial, trivial⟩ fun a w32 hA H hG => ?_
        refine hK31 _ _ ?_
        refine go_seq fun K33 hK33 => ?_
        have hx := hr2 i.toNat (by omega)
        refine q_draw [(36, vv), (38, ve), (42, .int .i64 ((E.getD (L.getD i.toNat 0).toNat (0, 0)).1)), (43, .bool (hasB V ((E.getD (L.getD i.toNat 0).toNat (0, 0)).1))), (47, vv), (49, ve), (53, .int .i64 ((E.getD (L.getD i.toNat 0).toNat (0, 0)).2)), (54, .bool (hasB V ((E.getD (L.getD i.toNat 0).toNat (0, 0)).2)))] [(2, .pointer (some ⟨b2, 0, none⟩)), (3, .pointer (some ⟨b4, 0, none⟩)), (29, vl), (30, .int .i64 (L.length : Int)), (31, .int .i64 i), (56, .bool ((!(hasB V ((E.getD (L.getD i.toNat 0).toNat (0, 0)).1))) || (!(hasB V ((E.getD (L.getD i.toNat 0).toNat (0, 0)).2)))))] ((0 < Try.prog.cellsOf 27) ∧ (CellOk (On w32) b4 (0 + 0) (vv)) ∧ (0 < Try.prog.cellsOf 22) ∧ (CellOk (On w32) b2 (0 + 1) (ve)) ∧ (True) ∧ ((Try.prog.info? 99).isSome = true ∧ IdxOk ve (L.getD i.toNat 0)) ∧ (0 < Try.prog.cellsOf 3) ∧ (CellOk (On w32) (hdB ve) (hdO ve + (L.getD i.toNat 0).toNat * 2 + 0) (.int .i64 ((E.getD (L.getD i.toNat 0).toNat (0, 0)).1))) ∧ (Callable Try.prog 39 ∧ CallOk Try.prog (On w32) 39 [vv, .int .i64 ((E.getD (L.getD i.toNat 0).toNat (0, 0)).1)].toArray (.bool (hasB V ((E.getD (L.getD i.toNat 0).toNat (0, 0)).1)))) ∧ (True) ∧ (True) ∧ ((!(hasB V ((E.getD (L.getD i.toNat 0).toNat (0, 0)).1))) = false → 0 < Try.prog.cellsOf 27) ∧ ((!(hasB V ((E.getD (L.getD i.toNat 0).toNat (0, 0)).1))) = false → CellOk (On w32) b4 (0 + 0) (vv)) ∧ ((!(hasB V ((E.getD (L.getD i.toNat 0).toNat (0, 0)).1))) = false → 0 < Try.prog.cellsOf 22) ∧ ((!(hasB V ((E.getD (L.getD i.toNat 0).toNat (0, 0)).1))) = false → CellOk (On w32) b2 (0 + 1) (ve)) ∧ ((!(hasB V ((E.getD (L.getD i.toNat 0).toNat (0, 0)).1))) = false → True) ∧ ((!(hasB V ((E.getD (L.getD i.toNat 0).toNat (0, 0)).1))) = false → (Try.prog.info? 99).isSome = true ∧ IdxOk ve (L.getD i.toNat 0)) ∧ ((!(hasB V ((E.getD (L.getD i.toNat 0).toNat (0, 0)).1))) = false → 0 < Try.prog.cellsOf 3) ∧ ((!(hasB V ((E.getD (L.getD i.toNat 0).toNat (0, 0)).1))) = false → CellOk (On w32) (hdB ve) (hdO ve + (L.getD i.toNat 0).toNat * 2 + 1) (.int .i64 ((E.getD (L.getD i.toNat 0).toNat (0, 0)).2))) ∧ ((!(hasB V ((E.getD (L.getD i.toNat 0).toNat (0, 0)).1))) = false → Callable Try.prog 39 ∧ CallOk Try.prog (On w32) 39 [vv, .int .i64 ((E.getD (L.getD i.toNat 0).toNat (0, 0)).2)].toArray (.bool (hasB V ((E.getD (L.getD i.toNat 0).toNat (0, 0)).2)))) ∧ ((!(hasB V ((E.getD (L.getD i.toNat 0).toNat (0, 0)).1))) = false → True) ∧ (True) ∧ True) hA H ⟨by decide +kernel, by exact box_cell H 0 rfl 0, by decide +kernel, by exact box_cell H 1 rfl 1, trivial, ⟨by kernel_rfl, by exact idx_ok (H.arg hE) (by omega) (by omega)⟩, by decide +kernel, by exact cell_flat (i := (L.getD i.toNat 0)) (H.arg hE) (by omega) (by omega) (0, 0) 0, ⟨callable_of, callOk_of fun w hw => by exact has_any vv V ((E.getD (L.getD i.toNat 0).toNat (0, 0)).1) w ((H.on hw).arg hV) (by omega)⟩, trivial, trivial, fun _ => by decide +kernel, fun _ => by exact box_cell H 0 rfl 0, fun _ => by decide +kernel, fun _ => by exact box_cell H 1 rfl 1, fun _ => trivial, fun hg0 => by replace hg0 := (nF hg0); exact ⟨by kernel_rfl, by exact idx_ok (H.arg hE) (by omega) (by omega)⟩, fun _ => by decide +kernel, fun hg0 => by replace hg0 := (nF hg0); exact by exact cell_flat (i := (L.getD i.toNat 0)) (H.arg hE) (by omega) (by omega) (0, 0) 1, fun hg0 => by replace hg0 := (nF hg0); exact ⟨callable_of, callOk_of fun w hw => by exact has_any vv V ((E.getD (L.getD i.toNat 0).toNat (0, 0)).2) w ((H.on hw).arg hV) (by omega)⟩, fun _ => trivial, trivial, trivial⟩ fun a w34 hA H hG => ?_
        refine hK33 _ _ ?_
        refine go_cond hA (.tmp 56) ((!(hasB V ((E.getD (L.getD i.toNat 0).toNat (0, 0)).1))) || (!(hasB V ((E.getD (L.getD i.toNat 0).toNat (0, 0)).2)))) (fun hb35 => ?_) (fun hb35 => ?_)
        · have hhb35 := (oT hb35).imp (fun h => (nT h)) (fun h => (nT h))
          refine go_seq fun K36 hK36 => ?_
          refine q_reg [] [(4, .int .i64 4)] ((True) ∧ True) hA H ⟨trivial, trivial⟩ fun a w37 hA H hG => ?_
          refine hK36 _ _ ?_
          refine go_ret_ ?_
          refine ret_one 4 (.int .i64 4) hA ?_
          exact ans_i' (by unfold partE; rw [if_neg (by omega), if_neg (by rintro (q | q); exact q hr1; exact q hr2), if_neg (fun q : okPart E V L => by have z := q i.toNat (by omega); rcases hhb35 with y | y; rw [z.1] at y; cases y; rw [z.2] at y; cases y)]) H.below
        · have hhb35 := (⟨(nF ((oF hb35).1)), (nF ((oF hb35).2))⟩ : _ ∧ _)
          refine go_skip ?_
          refine hK30 _ _ ?_
          refine q_reg [] [(2, .pointer (some ⟨b2, 0, none⟩)), (3, .pointer (some ⟨b4, 0, none⟩)), (29, vl), (30, .int .i64 (L.length : Int)), (31, .int .i64 (i + 1))] ((InR .i64 (i + 1)) ∧ (True) ∧ True) hA H ⟨⟨by omega, by omega⟩, trivial, trivial⟩ fun a w38 hA H hG => ?_
          refine ⟨(i + 1), ⟨env_sub _ hA, ⟨_, H⟩, ?_⟩, ?_⟩
          · (try dsimp only); exact ⟨by omega, fun j hj => if e : (j : Int) = i then (by rw [show j = i.toNat by omega]; exact hhb35) else hok j (by omega)⟩
          · (try dsimp only); omega
      · have hhb29 := of_decide_eq_false hb29
        refine go_exit 0 ?_
        refine hK21 _ _ ?_
        refine go_seq fun K39 hK39 => ?_
        refine q_reg [] [(4, .int .i64 0)] ((True) ∧ True) hA H ⟨trivial, trivial⟩ fun a w40 hA H hG => ?_
        refine hK39 _ _ ?_
        refine go_ret_ ?_
        refine ret_one 4 (.int .i64 0) hA ?_
        exact ans_i' (by unfold partE; rw [if_neg (by omega), if_neg (by rintro (q | q); exact q hr1; exact q hr2), if_pos (show okPart E V L from fun j hj => hok j (by omega))]) H.below

end Go.Proofs.Ytahonnlgkmimlaa

set_option linter.unusedSimpArgs false
set_option linter.unusedVariables false
namespace Go.Proofs.Ytahonnlgkmimlaa
open Go.RowKit

set_option maxRecDepth 100000 in
set_option maxHeartbeats 1000000 in
theorem equal_any (v u : Value) (l m : List Int) (w : World) (hl : Rd (· < w.heap.size) w v l) (hm : Rd (· < w.heap.size) w u m) :
  Calls Try.prog 76 [v, u].toArray w (Ans (.bool (decide (l = m))) w) := by
  have hlen := rd_len hl
  refine enter Try.f76 26 Try.func76 fun a hA => ?_
  replace hA := env_sub [(0, v), (1, u)] hA
  have H := Fr.start (org w)
  refine go_seq fun K1 hK1 => ?_
  refine q_reg [] [(0, v), (1, u)] ((True) ∧ True) hA H ⟨trivial, trivial⟩ fun a w2 hA H hG => ?_
  refine hK1 _ _ ?_
  refine go_seq fun K3 hK3 => ?_
  refine go_seq fun K4 hK4 => ?_
  refine q_reg [(7, .int .i64 (l.length : Int)), (9, .int .i64 (m.length : Int))] [(0, v), (1, u), (10, .bool (!decide ((l.length : Int) = (m.length : Int))))] ((True) ∧ (LenOk v (l.length : Int)) ∧ (True) ∧ (LenOk u (m.length : Int)) ∧ (True) ∧ True) hA H ⟨trivial, by exact len_ok (H.arg hl), trivial, by exact len_ok (H.arg hm), trivial, trivial⟩ fun a w5 hA H hG => ?_
  refine hK4 _ _ ?_
  refine go_cond hA (.tmp 10) (!decide ((l.length : Int) = (m.length : Int))) (fun hb6 => ?_) (fun hb6 => ?_)
  · have hhb6 := of_decide_eq_false (nT hb6)
    refine go_seq fun K7 hK7 => ?_
    refine q_reg [] [(4, .bool false)] ((True) ∧ True) hA H ⟨trivial, trivial⟩ fun a w8 hA H hG => ?_
    refine hK7 _ _ ?_
    refine go_ret_ ?_
    refine ret_one 4 (.bool false) hA ?_
    exact ans_b' ((decide_eq_false (fun q => hhb6 (by rw [q]))).symm) H.below
  · have hhb6 := of_decide_eq_true (nF hb6)
    refine go_skip ?_
    refine hK3 _ _ ?_
    refine go_seq fun K9 hK9 => ?_
    refine go_seq fun K10 hK10 => ?_
    refine q_reg [(12, .int .i64 (l.length : Int))] [(0, v), (1, u), (12, .int .i64 (l.length : Int)), (13, .int .i64 0)] ((True) ∧ (LenOk v (l.length : Int)) ∧ (True) ∧ True) hA H ⟨trivial, by exact len_ok (H.arg hl), trivial, trivial⟩ fun a w11 hA H hG => ?_
    refine hK10 _ _ ?_
    refine go_block 0 ?_
    refine go_loop_ (Int) (fun x_ a W => (fun (i : Int) => EnvOk 26 a (keepEnv [(0, v), (1, u), (12, .int .i64 (l.length : Int)), (13, .int .i64 i)]) ∧ (∃ S, Fr (org w) W S []) ∧ 0 ≤ i ∧ ∀ j : Nat, (j : Int) < i → l.getD j 0 = m.getD j 0) x_) (fun x_ => (fun (i : Int) => ((l.length : Int) - i).toNat) x_) (0) ?_ (fun i a w13 hI => ?_)
    · (try dsimp only); exact ⟨env_sub _ hA, ⟨_, H⟩, by omega, fun j hj => by omega⟩
    obtain ⟨hA, ⟨S, H⟩, h0, hok⟩ := hI
    try dsimp only at h0 hok
    refine go_seq fun K14 hK14 => ?_
    refine q_reg [] [(0, v), (1, u), (12, .int .i64 (l.length : Int)), (13, .int .i64 i), (14, .bool (decide (i < (l.length : Int))))] ((True) ∧ True) hA H ⟨trivial, trivial⟩ fun a w15 hA H hG => ?_
    refine hK14 _ _ ?_
    refine go_seq fun K16 hK16 => ?_
    refine go_cond hA (.tmp 14) (decide (i < (l.length : Int))) (fun hb17 => ?_) (fun hb17 => ?_)
    · have hhb17 := of_decide_eq_true hb17
      refine go_skip ?_
      refine hK16 _ _ ?_
      refine go_seq fun K18 hK18 => ?_
      refine go_block 1 ?_
      refine go_seq fun K19 hK19 => ?_
      refine q_reg [] [(0, v), (1, u), (5, .int .i64 i), (12, .int .i64 (l.length : Int)), (13, .int .i64 i)] ((True) ∧ (True) ∧ True) hA H ⟨trivial, trivial, trivial⟩ fun a w20 hA H hG => ?_
      refine hK19 _ _ ?_
      refine go_seq fun K21 hK21 => ?_
      refine q_draw [(19, .int .i64 (l.getD i.toNat 0)), (23, .int .i64 (m.getD i.toNat 0))] [(0, v), (1, u), (12, .int .i64 (l.length : Int)), (13, .int .i64 i), (24, .bool (!decide ((l.getD i.toNat 0) = (m.getD i.toNat 0))))] ((True) ∧ (True) ∧ ((Try.prog.info? 3).isSome = true ∧ IdxOk v i) ∧ (CellOk (On w20) (hdB v) (hdO v + i.toNat * 1) (.int .i64 (l.getD i.toNat 0))) ∧ (True) ∧ (True) ∧ ((Try.prog.info? 3).isSome = true ∧ IdxOk u i) ∧ (CellOk (On w20) (hdB u) (hdO u + i.toNat * 1) (.int .i64 (m.getD i.toNat 0))) ∧ (True) ∧ True) hA H ⟨trivial, trivial, ⟨by kernel_rfl, by exact idx_ok (H.arg hl) (by omega) (by omega)⟩, by exact cell_flat (i := i) (H.arg hl) (by omega) (by omega) 0 0, trivial, trivial, ⟨by kernel_rfl, by exact idx_ok (H.arg hm) (by omega) (by omega)⟩, by exact cell_flat (i := i) (H.arg hm) (by omega) (by omega) 0 0, trivial, trivial⟩ fun a w22 hA H hG => ?_
      refine hK21 _ _ ?_
      refine go_cond hA (.tmp 24) (!decide ((l.getD i.toNat 0) = (m.getD i.toNat 0))) (fun hb23 => ?_) (fun hb23 => ?_)
      · have hhb23 := of_decide_eq_false (nT hb23)
        refine go_seq fun K24 hK24 => ?_
        refine q_reg [] [(4, .bool false)] ((True) ∧ True) hA H ⟨trivial, trivial⟩ fun a w25 hA H hG => ?_
        refine hK24 _ _ ?_
        refine go_ret_ ?_
        refine ret_one 4 (.bool false) hA ?_
        exact ans_b' ((decide_eq_false (fun q => hhb23 (by rw [q]))).symm) H.below
      · have hhb23 := of_decide_eq_true (nF hb23)
        refine go_skip ?_
        refine hK18 _ _ ?_
        refine q_reg [] [(0, v), (1, u), (12, .int .i64 (l.length : Int)), (13, .int .i64 (i + 1))] ((InR .i64 (i + 1)) ∧ (True) ∧ True) hA H ⟨⟨by omega, by omega⟩, trivial, trivial⟩ fun a w26 hA H hG => ?_
        refine ⟨(i + 1), ⟨env_sub _ hA, ⟨_, H⟩, ?_⟩, ?_⟩
        · (try dsimp only); exact ⟨by omega, fun j hj => if e : (j : Int) = i then (by rw [show j = i.toNat by omega]; exact hhb23) else hok j (by omega)⟩
        · (try dsimp only); omega
    · have hhb17 := of_decide_eq_false hb17
      refine go_exit 0 ?_
      refine hK9 _ _ ?_
      refine go_seq fun K27 hK27 => ?_
      refine q_reg [] [(4, .bool true)] ((True) ∧ True) hA H ⟨trivial, trivial⟩ fun a w28 hA H hG => ?_
      refine hK27 _ _ ?_
      refine go_ret_ ?_
      refine ret_one 4 (.bool true) hA ?_
      exact ans_b' ((decide_eq_true (eq_of_getD hhb6 (fun j hj => hok j (by omega)))).symm) H.below

set_option maxRecDepth 100000 in
set_option maxHeartbeats 1000000 in
theorem requal_any (v u : Value) (l m : List Int) (w : World) (hl : Rd (· < w.heap.size) w v l) (hm : Rd (· < w.heap.size) w u m) :
  Calls Try.prog 36 [v, u].toArray w (Ans (.bool (decide (l = m))) w) := by
  have hlen := rd_len hl
  refine enter Try.f36 26 Try.func36 fun a hA => ?_
  replace hA := env_sub [(0, v), (1, u)] hA
  have H := Fr.start (org w)
  refine go_seq fun K1 hK1 => ?_
  refine q_reg [] [(0, v), (1, u)] ((True) ∧ True) hA H ⟨trivial, trivial⟩ fun a w2 hA H hG => ?_
  refine hK1 _ _ ?_
  refine go_seq fun K3 hK3 => ?_
  refine go_seq fun K4 hK4 => ?_
  refine q_reg [(7, .int .i64 (l.length : Int)), (9, .int .i64 (m.length : Int))] [(0, v), (1, u), (10, .bool (!decide ((l.length : Int) = (m.length : Int))))] ((True) ∧ (LenOk v (l.length : Int)) ∧ (True) ∧ (LenOk u (m.length : Int)) ∧ (True) ∧ True) hA H ⟨trivial, by exact len_ok (H.arg hl), trivial, by exact len_ok (H.arg hm), trivial, trivial⟩ fun a w5 hA H hG => ?_
  refine hK4 _ _ ?_
  refine go_cond hA (.tmp 10) (!decide ((l.length : Int) = (m.length : Int))) (fun hb6 => ?_) (fun hb6 => ?_)
  · have hhb6 := of_decide_eq_false (nT hb6)
    refine go_seq fun K7 hK7 => ?_
    refine q_reg [] [(4, .bool false)] ((True) ∧ True) hA H ⟨trivial, trivial⟩ fun a w8 hA H hG => ?_
    refine hK7 _ _ ?_
    refine go_ret_ ?_
    refine ret_one 4 (.bool false) hA ?_
    exact ans_b' ((decide_eq_false (fun q => hhb6 (by rw [q]))).symm) H.below
  · have hhb6 := of_decide_eq_true (nF hb6)
    refine go_skip ?_
    refine hK3 _ _ ?_
    refine go_seq fun K9 hK9 => ?_
    refine go_seq fun K10 hK10 => ?_
    refine q_reg [] [(0, v), (1, u), (5, .int .i64 0)] ((True) ∧ True) hA H ⟨trivial, trivial⟩ fun a w11 hA H hG => ?_
    refine hK10 _ _ ?_
    refine go_block 0 ?_
    refine go_loop_ (Int) (fun x_ a W => (fun (i : Int) => EnvOk 26 a (keepEnv [(0, v), (1, u), (5, .int .i64 i)]) ∧ (∃ S, Fr (org w) W S []) ∧ 0 ≤ i ∧ ∀ j : Nat, (j : Int) < i → l.getD j 0 = m.getD j 0) x_) (fun x_ => (fun (i : Int) => ((l.length : Int) - i).toNat) x_) (0) ?_ (fun i a w13 hI => ?_)
    · (try dsimp only); exact ⟨env_sub _ hA, ⟨_, H⟩, by omega, fun j hj => by omega⟩
    obtain ⟨hA, ⟨S, H⟩, h0, hok⟩ := hI
    try dsimp only at h0 hok
    refine go_seq fun K14 hK14 => ?_
    refine go_seq fun K15 hK15 => ?_
    refine q_reg [(13, .int .i64 (l.length : Int))] [(0, v), (1, u), (5, .int .i64 i), (14, .bool (decide (i < (l.length : Int))))] ((True) ∧ (True) ∧ (LenOk v (l.length : Int)) ∧ (True) ∧ True) hA H ⟨trivial, trivial, by exact len_ok (H.arg hl), trivial, trivial⟩ fun a w16 hA H hG => ?_
    refine hK15 _ _ ?_
    refine go_cond hA (.tmp 14) (decide (i < (l.length : Int))) (fun hb17 => ?_) (fun hb17 => ?_)
    · have hhb17 := of_decide_eq_true hb17
      refine go_skip ?_
      refine hK14 _ _ ?_
      refine go_seq fun K18 hK18 => ?_
      refine go_block 1 ?_
      refine go_seq fun K19 hK19 => ?_
      refine q_draw [(20, .int .i64 (l.getD i.toNat 0)), (24, .int .i64 (m.getD i.toNat 0))] [(0, v), (1, u), (5, .int .i64 i), (25, .bool (!decide ((l.getD i.toNat 0) = (m.getD i.toNat 0))))] ((True) ∧ (True) ∧ ((Try.prog.info? 3).isSome = true ∧ IdxOk v i) ∧ (CellOk (On w16) (hdB v) (hdO v + i.toNat * 1) (.int .i64 (l.getD i.toNat 0))) ∧ (True) ∧ (True) ∧ ((Try.prog.info? 3).isSome = true ∧ IdxOk u i) ∧ (CellOk (On w16) (hdB u) (hdO u + i.toNat * 1) (.int .i64 (m.getD i.toNat 0))) ∧ (True) ∧ True) hA H ⟨trivial, trivial, ⟨by kernel_rfl, by exact idx_ok (H.arg hl) (by omega) (by omega)⟩, by exact cell_flat (i := i) (H.arg hl) (by omega) (by omega) 0 0, trivial, trivial, ⟨by kernel_rfl, by exact idx_ok (H.arg hm) (by omega) (by omega)⟩, by exact cell_flat (i := i) (H.arg hm) (by omega) (by omega) 0 0, trivial, trivial⟩ fun a w20 hA H hG => ?_
      refine hK19 _ _ ?_
      refine go_cond hA (.tmp 25) (!decide ((l.getD i.toNat 0) = (m.getD i.toNat 0))) (fun hb21 => ?_) (fun hb21 => ?_)
      · have hhb21 := of_decide_eq_false (nT hb21)
        refine go_seq fun K22 hK22 => ?_
        refine q_reg [] [(4, .bool false)] ((True) ∧ True) hA H ⟨trivial, trivial⟩ fun a w23 hA H hG => ?_
        refine hK22 _ _ ?_
        refine go_ret_ ?_
        refine ret_one 4 (.bool false) hA ?_
        exact ans_b' ((decide_eq_false (fun q => hhb21 (by rw [q]))).symm) H.below
      · have hhb21 := of_decide_eq_true (nF hb21)
        refine go_skip ?_
        refine hK18 _ _ ?_
        refine q_reg [] [(0, v), (1, u), (5, .int .i64 (i + 1))] ((True) ∧ (InR .i64 (i + 1)) ∧ (True) ∧ True) hA H ⟨trivial, ⟨by omega, by omega⟩, trivial, trivial⟩ fun a w24 hA H hG => ?_
        refine ⟨(i + 1), ⟨env_sub _ hA, ⟨_, H⟩, ?_⟩, ?_⟩
        · (try dsimp only); exact ⟨by omega, fun j hj => if e : (j : Int) = i then (by rw [show j = i.toNat by omega]; exact hhb21) else hok j (by omega)⟩
        · (try dsimp only); omega
    · have hhb17 := of_decide_eq_false hb17
      refine go_exit 0 ?_
      refine hK9 _ _ ?_
      refine go_seq fun K25 hK25 => ?_
      refine q_reg [] [(4, .bool true)] ((True) ∧ True) hA H ⟨trivial, trivial⟩ fun a w26 hA H hG => ?_
      refine hK25 _ _ ?_
      refine go_ret_ ?_
      refine ret_one 4 (.bool true) hA ?_
      exact ans_b' ((decide_eq_true (eq_of_getD hhb6 (fun j hj => hok j (by omega)))).symm) H.below

set_option maxRecDepth 100000 in
set_option maxHeartbeats 1000000 in
theorem same_any (va ea vb eb : Value) (A B C D : List Int) (w : World) (gA : Rd (· < w.heap.size) w va A) (gB : Rd (· < w.heap.size) w ea B) (gC : Rd (· < w.heap.size) w vb C) (gD : Rd (· < w.heap.size) w eb D) :
  Calls Try.prog 28 [.agg #[va, ea], .agg #[vb, eb]].toArray w (Ans (.bool (decide (A = C) && decide (B = D))) w) := by
  refine enter Try.f28 17 Try.func28 fun a hA => ?_
  replace hA := env_sub [(0, .agg #[va, ea]), (1, .agg #[vb, eb])] hA
  have H := Fr.start (org w)
  refine go_seq fun K1 hK1 => ?_
  refine region_list ?_
  refine list_at 0 ?_; refine q_box 0 2 29 (.tmp 0) (.agg #[va, ea]) [va, ea] [(1, .agg #[vb, eb])] hA H fun b2 a w3 H hA hG hge_b2 => ?_
  clear hge_b2
  refine list_at 1 ?_; refine q_box 1 3 29 (.tmp 1) (.agg #[vb, eb]) [vb, eb] [(2, .pointer (some ⟨b2, 0, none⟩))] hA H fun b4 a w5 H hA hG hge_b4 => ?_
  clear hge_b4
  refine q_list 2 1 [] [(2, .pointer (some ⟨b2, 0, none⟩)), (3, .pointer (some ⟨b4, 0, none⟩))] ((True) ∧ True) hA H ⟨trivial, trivial⟩ fun a w6 hA H hG => ?_
  refine list_end ?_
  refine hK1 _ _ ?_
  refine go_seq fun K7 hK7 => ?_
  refine q_reg [(6, va), (8, vb), (9, .bool (decide (A = C))), (12, ea), (14, eb), (15, .bool (decide (B = D)))] [(4, .bool ((decide (A = C)) && (decide (B = D))))] ((0 < Try.prog.cellsOf 27) ∧ (CellOk (On w6) b2 (0 + 0) (va)) ∧ (0 < Try.prog.cellsOf 27) ∧ (CellOk (On w6) b4 (0 + 0) (vb)) ∧ (Callable Try.prog 76 ∧ CallOk Try.prog (On w6) 76 [va, vb].toArray (.bool (decide (A = C)))) ∧ (True) ∧ ((decide (A = C)) = true → 0 < Try.prog.cellsOf 27) ∧ ((decide (A = C)) = true → CellOk (On w6) b2 (0 + 1) (ea)) ∧ ((decide (A = C)) = true → 0 < Try.prog.cellsOf 27) ∧ ((decide (A = C)) = true → CellOk (On w6) b4 (0 + 1) (eb)) ∧ ((decide (A = C)) = true → Callable Try.prog 76 ∧ CallOk Try.prog (On w6) 76 [ea, eb].toArray (.bool (decide (B = D)))) ∧ (True) ∧ (True) ∧ True) hA H ⟨by decide +kernel, by exact box_cell H 1 rfl 0, by decide +kernel, by exact box_cell H 0 rfl 0, ⟨callable_of, callOk_of fun w hw => by exact equal_any va vb A C w (((H.on hw).arg gA)) (((H.on hw).arg gC))⟩, trivial, fun _ => by decide +kernel, fun _ => by exact box_cell H 1 rfl 1, fun _ => by decide +kernel, fun _ => by exact box_cell H 0 rfl 1, fun _ => ⟨callable_of, callOk_of fun w hw => by exact equal_any ea eb B D w (((H.on hw).arg gB)) (((H.on hw).arg gD))⟩, trivial, trivial, trivial⟩ fun a w8 hA H hG => ?_
  refine hK7 _ _ ?_
  refine go_ret_ ?_
  refine ret_one 4 (.bool ((decide (A = C)) && (decide (B = D)))) hA ?_
  exact ans_b' rfl H.below

set_option maxRecDepth 100000 in
set_option maxHeartbeats 1000000 in
theorem rsame_any (va ea vb eb : Value) (A B C D : List Int) (w : World) (gA : Rd (· < w.heap.size) w va A) (gB : Rd (· < w.heap.size) w ea B) (gC : Rd (· < w.heap.size) w vb C) (gD : Rd (· < w.heap.size) w eb D) :
  Calls Try.prog 29 [.agg #[va, ea], .agg #[vb, eb]].toArray w (Ans (.bool (decide (A = C) && decide (B = D))) w) := by
  refine enter Try.f29 17 Try.func29 fun a hA => ?_
  replace hA := env_sub [(0, .agg #[va, ea]), (1, .agg #[vb, eb])] hA
  have H := Fr.start (org w)
  refine go_seq fun K1 hK1 => ?_
  refine region_list ?_
  refine list_at 0 ?_; refine q_box 0 2 29 (.tmp 0) (.agg #[va, ea]) [va, ea] [(1, .agg #[vb, eb])] hA H fun b2 a w3 H hA hG hge_b2 => ?_
  clear hge_b2
  refine list_at 1 ?_; refine q_box 1 3 29 (.tmp 1) (.agg #[vb, eb]) [vb, eb] [(2, .pointer (some ⟨b2, 0, none⟩))] hA H fun b4 a w5 H hA hG hge_b4 => ?_
  clear hge_b4
  refine q_list 2 1 [] [(2, .pointer (some ⟨b2, 0, none⟩)), (3, .pointer (some ⟨b4, 0, none⟩))] ((True) ∧ True) hA H ⟨trivial, trivial⟩ fun a w6 hA H hG => ?_
  refine list_end ?_
  refine hK1 _ _ ?_
  refine go_seq fun K7 hK7 => ?_
  refine q_reg [(6, va), (8, vb), (9, .bool (decide (A = C))), (12, ea), (14, eb), (15, .bool (decide (B = D)))] [(4, .bool ((decide (A = C)) && (decide (B = D))))] ((0 < Try.prog.cellsOf 27) ∧ (CellOk (On w6) b2 (0 + 0) (va)) ∧ (0 < Try.prog.cellsOf 27) ∧ (CellOk (On w6) b4 (0 + 0) (vb)) ∧ (Callable Try.prog 36 ∧ CallOk Try.prog (On w6) 36 [va, vb].toArray (.bool (decide (A = C)))) ∧ (True) ∧ ((decide (A = C)) = true → 0 < Try.prog.cellsOf 27) ∧ ((decide (A = C)) = true → CellOk (On w6) b2 (0 + 1) (ea)) ∧ ((decide (A = C)) = true → 0 < Try.prog.cellsOf 27) ∧ ((decide (A = C)) = true → CellOk (On w6) b4 (0 + 1) (eb)) ∧ ((decide (A = C)) = true → Callable Try.prog 36 ∧ CallOk Try.prog (On w6) 36 [ea, eb].toArray (.bool (decide (B = D)))) ∧ (True) ∧ (True) ∧ True) hA H ⟨by decide +kernel, by exact box_cell H 1 rfl 0, by decide +kernel, by exact box_cell H 0 rfl 0, ⟨callable_of, callOk_of fun w hw => by exact requal_any va vb A C w (((H.on hw).arg gA)) (((H.on hw).arg gC))⟩, trivial, fun _ => by decide +kernel, fun _ => by exact box_cell H 1 rfl 1, fun _ => by decide +kernel, fun _ => by exact box_cell H 0 rfl 1, fun _ => ⟨callable_of, callOk_of fun w hw => by exact requal_any ea eb B D w (((H.on hw).arg gB)) (((H.on hw).arg gD))⟩, trivial, trivial, trivial⟩ fun a w8 hA H hG => ?_
  refine hK7 _ _ ?_
  refine go_ret_ ?_
  refine ret_one 4 (.bool ((decide (A = C)) && (decide (B = D)))) hA ?_
  exact ans_b' rfl H.below

set_option maxRecDepth 100000 in
set_option maxHeartbeats 1000000 in
theorem in_any (v : Value) (l : List Int) (x : Int) (w : World) (hl : Rd (· < w.heap.size) w v l) :
  Calls Try.prog 24 [v, .int .i64 x].toArray w (Ans (.bool (decide (x ∈ l))) w) := by
  have hlen := rd_len hl
  refine enter Try.f24 18 Try.func24 fun a hA => ?_
  replace hA := env_sub [(0, v), (1, .int .i64 x)] hA
  have H := Fr.start (org w)
  refine go_seq fun K1 hK1 => ?_
  refine q_reg [] [(0, v), (1, .int .i64 x)] ((True) ∧ True) hA H ⟨trivial, trivial⟩ fun a w2 hA H hG => ?_
  refine hK1 _ _ ?_
  refine go_seq fun K3 hK3 => ?_
  refine go_seq fun K4 hK4 => ?_
  refine q_reg [] [(0, v), (1, .int .i64 x), (5, .int .i64 0)] ((True) ∧ True) hA H ⟨trivial, trivial⟩ fun a w5 hA H hG => ?_
  refine hK4 _ _ ?_
  refine go_block 0 ?_
  refine go_loop_ (Int) (fun x_ a W => (fun (i : Int) => EnvOk 18 a (keepEnv [(0, v), (1, .int .i64 x), (5, .int .i64 i)]) ∧ (∃ S, Fr (org w) W S []) ∧ 0 ≤ i ∧ ∀ j : Nat, (j : Int) < i → l.getD j 0 ≠ x) x_) (fun x_ => (fun (i : Int) => ((l.length : Int) - i).toNat) x_) (0) ?_ (fun i a w7 hI => ?_)
  · (try dsimp only); exact ⟨env_sub _ hA, ⟨_, H⟩, by omega, fun j hj => by omega⟩
  obtain ⟨hA, ⟨S, H⟩, h0, hok⟩ := hI
  try dsimp only at h0 hok
  refine go_seq fun K8 hK8 => ?_
  refine go_seq fun K9 hK9 => ?_
  refine q_reg [(8, .int .i64 (l.length : Int))] [(0, v), (1, .int .i64 x), (5, .int .i64 i), (9, .bool (decide (i < (l.length : Int))))] ((True) ∧ (True) ∧ (LenOk v (l.length : Int)) ∧ (True) ∧ True) hA H ⟨trivial, trivial, by exact len_ok (H.arg hl), trivial, trivial⟩ fun a w10 hA H hG => ?_
  refine hK9 _ _ ?_
  refine go_cond hA (.tmp 9) (decide (i < (l.length : Int))) (fun hb11 => ?_) (fun hb11 => ?_)
  · have hhb11 := of_decide_eq_true hb11
    refine go_skip ?_
    refine hK8 _ _ ?_
    refine go_seq fun K12 hK12 => ?_
    refine go_block 1 ?_
    refine go_seq fun K13 hK13 => ?_
    refine q_reg [(15, .int .i64 (l.getD i.toNat 0))] [(0, v), (1, .int .i64 x), (5, .int .i64 i), (17, .bool (decide ((l.getD i.toNat 0) = x)))] ((True) ∧ (True) ∧ ((Try.prog.info? 3).isSome = true ∧ IdxOk v i) ∧ (CellOk (On w10) (hdB v) (hdO v + i.toNat * 1) (.int .i64 (l.getD i.toNat 0))) ∧ (True) ∧ (True) ∧ True) hA H ⟨trivial, trivial, ⟨by kernel_rfl, by exact idx_ok (H.arg hl) (by omega) (by omega)⟩, by exact cell_flat (i := i) (H.arg hl) (by omega) (by omega) 0 0, trivial, trivial, trivial⟩ fun a w14 hA H hG => ?_
    refine hK13 _ _ ?_
    refine go_cond hA (.tmp 17) (decide ((l.getD i.toNat 0) = x)) (fun hb15 => ?_) (fun hb15 => ?_)
    · have hhb15 := of_decide_eq_true hb15
      refine go_seq fun K16 hK16 => ?_
      refine q_reg [] [(4, .bool true)] ((True) ∧ True) hA H ⟨trivial, trivial⟩ fun a w17 hA H hG => ?_
      refine hK16 _ _ ?_
      refine go_ret_ ?_
      refine ret_one 4 (.bool true) hA ?_
      exact ans_b' ((decide_eq_true (mem_getD.2 ⟨i.toNat, by omega, hhb15⟩)).symm) H.below
    · have hhb15 := of_decide_eq_false hb15
      refine go_skip ?_
      refine hK12 _ _ ?_
      refine q_reg [] [(0, v), (1, .int .i64 x), (5, .int .i64 (i + 1))] ((True) ∧ (InR .i64 (i + 1)) ∧ (True) ∧ True) hA H ⟨trivial, ⟨by omega, by omega⟩, trivial, trivial⟩ fun a w18 hA H hG => ?_
      refine ⟨(i + 1), ⟨env_sub _ hA, ⟨_, H⟩, ?_⟩, ?_⟩
      · (try dsimp only); exact ⟨by omega, fun j hj => if e : (j : Int) = i then (by rw [show j = i.toNat by omega]; exact hhb15) else hok j (by omega)⟩
      · (try dsimp only); omega
  · have hhb11 := of_decide_eq_false hb11
    refine go_exit 0 ?_
    refine hK3 _ _ ?_
    refine go_seq fun K19 hK19 => ?_
    refine q_reg [] [(4, .bool false)] ((True) ∧ True) hA H ⟨trivial, trivial⟩ fun a w20 hA H hG => ?_
    refine hK19 _ _ ?_
    refine go_ret_ ?_
    refine ret_one 4 (.bool false) hA ?_
    exact ans_b' ((decide_eq_false (fun q => by obtain ⟨j, hj, e⟩ := mem_getD.1 q; exact hok j (by omega) e)).symm) H.below

set_option maxRecDepth 100000 in
set_option maxHeartbeats 1000000 in
theorem rright_any (n : Int) (ve : Value) (E : List (Int × Int)) (w : World) (hn : -9223372036854775808 ≤ n ∧ n ≤ 9223372036854775807) (hE : Rd (· < w.heap.size) w ve E) :
  Calls Try.prog 27 [.agg #[.int .i64 n, ve]].toArray w (Ans (.int .i64 (rightE n E)) w) := by
  have hlen := rd_len hE
  refine enter Try.f27 70 Try.func27 fun a hA => ?_
  replace hA := env_sub [(0, .agg #[.int .i64 n, ve])] hA
  have H := Fr.start (org w)
  refine go_seq fun K1 hK1 => ?_
  refine region_list ?_
  refine list_at 0 ?_; refine q_box 0 1 24 (.tmp 0) (.agg #[.int .i64 n, ve]) [.int .i64 n, ve] [] hA H fun b2 a w3 H hA hG hge_b2 => ?_
  clear hge_b2
  refine q_list 1 1 [] [(1, .pointer (some ⟨b2, 0, none⟩))] ((True) ∧ True) hA H ⟨trivial, trivial⟩ fun a w4 hA H hG => ?_
  refine list_end ?_
  refine hK1 _ _ ?_
  refine go_seq fun K5 hK5 => ?_
  refine go_seq fun K6 hK6 => ?_
  refine q_reg [(5, .int .i64 n)] [(1, .pointer (some ⟨b2, 0, none⟩)), (6, .bool (decide (n < 0)))] ((0 < Try.prog.cellsOf 3) ∧ (CellOk (On w4) b2 (0 + 0) (.int .i64 n)) ∧ (True) ∧ True) hA H ⟨by decide +kernel, by exact box_cell H 0 rfl 0, trivial, trivial⟩ fun a w7 hA H hG => ?_
  refine hK6 _ _ ?_
  refine go_cond hA (.tmp 6) (decide (n < 0)) (fun hb8 => ?_) (fun hb8 => ?_)
  · have hhb8 := of_decide_eq_true hb8
    refine go_seq fun K9 hK9 => ?_
    refine q_reg [] [(2, .int .i64 3)] ((True) ∧ True) hA H ⟨trivial, trivial⟩ fun a w10 hA H hG => ?_
    refine hK9 _ _ ?_
    refine go_ret_ ?_
    refine ret_one 2 (.int .i64 3) hA ?_
    exact ans_i' (by unfold rightE; first | rw [if_pos (by omega)] | rw [if_neg (by omega), if_pos (by omega)]) H.below
  · have hhb8 := of_decide_eq_false hb8
    refine go_skip ?_
    refine hK5 _ _ ?_
    refine go_seq fun K11 hK11 => ?_
    refine go_seq fun K12 hK12 => ?_
    refine q_reg [(8, .int .i64 n), (12, ve), (13, .int .i64 (E.length : Int)), (18, .int .i64 n), (20, ve), (21, .int .i64 (E.length : Int))] [(1, .pointer (some ⟨b2, 0, none⟩)), (24, .bool (((decide ((1024 : Int) < n)) || (decide ((1024 : Int) < (E.length : Int)))) || (decide ((1024 : Int) < n + (E.length : Int)))))] ((0 < Try.prog.cellsOf 3) ∧ (CellOk (On w7) b2 (0 + 0) (.int .i64 n)) ∧ (True) ∧ (True) ∧ ((decide ((1024 : Int) < n)) = false → 0 < Try.prog.cellsOf 22) ∧ ((decide ((1024 : Int) < n)) = false → CellOk (On w7) b2 (0 + 1) (ve)) ∧ ((decide ((1024 : Int) < n)) = false → LenOk ve (E.length : Int)) ∧ ((decide ((1024 : Int) < n)) = false → True) ∧ (True) ∧ (True) ∧ (((decide ((1024 : Int) < n)) || (decide ((1024 : Int) < (E.length : Int)))) = false → 0 < Try.prog.cellsOf 3) ∧ (((decide ((1024 : Int) < n)) || (decide ((1024 : Int) < (E.length : Int)))) = false → CellOk (On w7) b2 (0 + 0) (.int .i64 n)) ∧ (((decide ((1024 : Int) < n)) || (decide ((1024 : Int) < (E.length : Int)))) = false → 0 < Try.prog.cellsOf 22) ∧ (((decide ((1024 : Int) < n)) || (decide ((1024 : Int) < (E.length : Int)))) = false → CellOk (On w7) b2 (0 + 1) (ve)) ∧ (((decide ((1024 : Int) < n)) || (decide ((1024 : Int) < (E.length : Int)))) = false → LenOk ve (E.length : Int)) ∧ (((decide ((1024 : Int) < n)) || (decide ((1024 : Int) < (E.length : Int)))) = false → InR .i64 (n + (E.length : Int))) ∧ (((decide ((1024 : Int) < n)) || (decide ((1024 : Int) < (E.length : Int)))) = false → True) ∧ (True) ∧ True) hA H ⟨by decide +kernel, by exact box_cell H 0 rfl 0, trivial, trivial, fun _ => by decide +kernel, fun _ => by exact box_cell H 0 rfl 1, fun _ => by exact len_ok (H.arg hE), fun _ => trivial, trivial, trivial, fun _ => by decide +kernel, fun _ => by exact box_cell H 0 rfl 0, fun _ => by decide +kernel, fun _ => by exact box_cell H 0 rfl 1, fun _ => by exact len_ok (H.arg hE), fun hg0 => by replace hg0 := (⟨of_decide_eq_false ((oF hg0).1), of_decide_eq_false ((oF hg0).2)⟩ : _ ∧ _); exact ⟨by omega, by omega⟩, fun _ => trivial, trivial, trivial⟩ fun a w13 hA H hG => ?_
    refine hK12 _ _ ?_
    refine go_cond hA (.tmp 24) (((decide ((1024 : Int) < n)) || (decide ((1024 : Int) < (E.length : Int)))) || (decide ((1024 : Int) < n + (E.length : Int)))) (fun hb14 => ?_) (fun hb14 => ?_)
    · have hhb14 := (oT hb14).imp (fun h => (oT h).imp (fun h => of_decide_eq_true h) (fun h => of_decide_eq_true h)) (fun h => of_decide_eq_true h)
      refine go_seq fun K15 hK15 => ?_
      refine q_reg [] [(2, .int .i64 2)] ((True) ∧ True) hA H ⟨trivial, trivial⟩ fun a w16 hA H hG => ?_
      refine hK15 _ _ ?_
      refine go_ret_ ?_
      refine ret_one 2 (.int .i64 2) hA ?_
      exact ans_i' (by unfold rightE; first | rw [if_pos (by omega)] | rw [if_neg (by omega), if_pos (by omega)]) H.below
    · have hhb14 := (⟨(⟨of_decide_eq_false ((oF ((oF hb14).1)).1), of_decide_eq_false ((oF ((oF hb14).1)).2)⟩ : _ ∧ _), of_decide_eq_false ((oF hb14).2)⟩ : _ ∧ _)
      refine go_skip ?_
      refine hK11 _ _ ?_
      refine go_seq fun K17 hK17 => ?_
      refine go_seq fun K18 hK18 => ?_
      refine q_reg [] [(1, .pointer (some ⟨b2, 0, none⟩)), (3, .int .i64 0)] ((True) ∧ True) hA H ⟨trivial, trivial⟩ fun a w19 hA H hG => ?_
      refine hK18 _ _ ?_
      refine go_block 0 ?_
      refine go_loop_ (Int) (fun x_ a W => (fun (i : Int) => EnvOk 70 a (keepEnv [(1, .pointer (some ⟨b2, 0, none⟩)), (3, .int .i64 i)]) ∧ (∃ S, Fr (org w) W S [.box b2 24 [.int .i64 n, ve]]) ∧ 0 ≤ i ∧ ∀ j : Nat, (j : Int) < i → okE n (E.getD j (0, 0))) x_) (fun x_ => (fun (i : Int) => ((E.length : Int) - i).toNat) x_) (0) ?_ (fun i a w21 hI => ?_)
      · (try dsimp only); exact ⟨env_sub _ hA, ⟨_, H⟩, by omega, fun j hj => by omega⟩
      obtain ⟨hA, ⟨S, H⟩, h0, hok⟩ := hI
      try dsimp only at h0 hok
      refine go_seq fun K22 hK22 => ?_
      refine go_seq fun K23 hK23 => ?_
      refine q_reg [(27, ve), (28, .int .i64 (E.length : Int))] [(1, .pointer (some ⟨b2, 0, none⟩)), (3, .int .i64 i), (29, .bool (decide (i < (E.length : Int))))] ((True) ∧ (0 < Try.prog.cellsOf 22) ∧ (CellOk (On w21) b2 (0 + 1) (ve)) ∧ (LenOk ve (E.length : Int)) ∧ (True) ∧ True) hA H ⟨trivial, by decide +kernel, by exact box_cell H 0 rfl 1, by exact len_ok (H.arg hE), trivial, trivial⟩ fun a w24 hA H hG => ?_
      refine hK23 _ _ ?_
      refine go_cond hA (.tmp 29) (decide (i < (E.length : Int))) (fun hb25 => ?_) (fun hb25 => ?_)
      · have hhb25 := of_decide_eq_true hb25
        refine go_skip ?_
        refine hK22 _ _ ?_
        refine go_seq fun K26 hK26 => ?_
        refine go_block 1 ?_
        refine go_seq fun K27 hK27 => ?_
        refine q_draw [(33, ve), (37, .int .i64 ((E.getD i.toNat (0, 0)).1)), (41, ve), (45, .int .i64 ((E.getD i.toNat (0, 0)).1)), (47, .int .i64 n), (52, ve), (56, .int .i64 ((E.getD i.toNat (0, 0)).2)), (61, ve), (65, .int .i64 ((E.getD i.toNat (0, 0)).2)), (67, .int .i64 n)] [(1, .pointer (some ⟨b2, 0, none⟩)), (3, .int .i64 i), (69, .bool ((((decide ((E.getD i.toNat (0, 0)).1 < 0)) || (decide (n ≤ (E.getD i.toNat (0, 0)).1))) || (decide ((E.getD i.toNat (0, 0)).2 < 0))) || (decide (n ≤ (E.getD i.toNat (0, 0)).2))))] ((0 < Try.prog.cellsOf 22) ∧ (CellOk (On w24) b2 (0 + 1) (ve)) ∧ (True) ∧ ((Try.prog.info? 99).isSome = true ∧ IdxOk ve i) ∧ (0 < Try.prog.cellsOf 3) ∧ (CellOk (On w24) (hdB ve) (hdO ve + i.toNat * 2 + 0) (.int .i64 ((E.getD i.toNat (0, 0)).1))) ∧ (True) ∧ (True) ∧ ((decide ((E.getD i.toNat (0, 0)).1 < 0)) = false → 0 < Try.prog.cellsOf 22) ∧ ((decide ((E.getD i.toNat (0, 0)).1 < 0)) = false → CellOk (On w24) b2 (0 + 1) (ve)) ∧ ((decide ((E.getD i.toNat (0, 0)).1 < 0)) = false → True) ∧ ((decide ((E.getD i.toNat (0, 0)).1 < 0)) = false → (Try.prog.info? 99).isSome = true ∧ IdxOk ve i) ∧ ((decide ((E.getD i.toNat (0, 0)).1 < 0)) = false → 0 < Try.prog.cellsOf 3) ∧ ((decide ((E.getD i.toNat (0, 0)).1 < 0)) = false → CellOk (On w24) (hdB ve) (hdO ve + i.toNat * 2 + 0) (.int .i64 ((E.getD i.toNat (0, 0)).1))) ∧ ((decide ((E.getD i.toNat (0, 0)).1 < 0)) = false → 0 < Try.prog.cellsOf 3) ∧ ((decide ((E.getD i.toNat (0, 0)).1 < 0)) = false → CellOk (On w24) b2 (0 + 0) (.int .i64 n)) ∧ ((decide ((E.getD i.toNat (0, 0)).1 < 0)) = false → True) ∧ (True) ∧ (True) ∧ (((decide ((E.getD i.toNat (0, 0)).1 < 0)) || (decide (n ≤ (E.getD i.toNat (0, 0)).1))) = false → 0 < Try.prog.cellsOf 22) ∧ (((decide ((E.getD i.toNat (0, 0)).1 < 0)) || (decide (n ≤ (E.getD i.toNat (0, 0)).1))) = false → CellOk (On w24) b2 (0 + 1) (ve)) ∧ (((decide ((E.getD i.toNat (0, 0)).1 < 0)) || (decide (n ≤ (E.getD i.toNat (0, 0)).1))) = false → True) ∧ (((decide ((E.getD i.toNat (0, 0)).1 < 0)) || (decide (n ≤ (E.getD i.toNat (0, 0)).1))) = false → (Try.prog.info? 99).isSome = true ∧ IdxOk ve i) ∧ (((decide ((E.getD i.toNat (0, 0)).1 < 0)) || (decide (n ≤ (E.getD i.toNat (0, 0)).1))) = false → 0 < Try.prog.cellsOf 3) ∧ (((decide ((E.getD i.toNat (0, 0)).1 < 0)) || (decide (n ≤ (E.getD i.toNat (0, 0)).1))) = false → CellOk (On w24) (hdB ve) (hdO ve + i.toNat * 2 + 1) (.int .i64 ((E.getD i.toNat (0, 0)).2))) ∧ (((decide ((E.getD i.toNat (0, 0)).1 < 0)) || (decide (n ≤ (E.getD i.toNat (0, 0)).1))) = false → True) ∧ (True) ∧ (True) ∧ ((((decide ((E.getD i.toNat (0, 0)).1 < 0)) || (decide (n ≤ (E.getD i.toNat (0, 0)).1))) || (decide ((E.getD i.toNat (0, 0)).2 < 0))) = false → 0 < Try.prog.cellsOf 22) ∧ ((((decide ((E.getD i.toNat (0, 0)).1 < 0)) || (decide (n ≤ (E.getD i.toNat (0, 0)).1))) || (decide ((E.getD i.toNat (0, 0)).2 < 0))) = false → CellOk (On w24) b2 (0 + 1) (ve)) ∧ ((((decide ((E.getD i.toNat (0, 0)).1 < 0)) || (decide (n ≤ (E.getD i.toNat (0, 0)).1))) || (decide ((E.getD i.toNat (0, 0)).2 < 0))) = false → True) ∧ ((((decide ((E.getD i.toNat (0, 0)).1 < 0)) || (decide (n ≤ (E.getD i.toNat (0, 0)).1))) || (decide ((E.getD i.toNat (0, 0)).2 < 0))) = false → (Try.prog.info? 99).isSome = true ∧ IdxOk ve i) ∧ ((((decide ((E.getD i.toNat (0, 0)).1 < 0)) || (decide (n ≤ (E.getD i.toNat (0, 0)).1))) || (decide ((E.getD i.toNat (0, 0)).2 < 0))) = false → 0 < Try.prog.cellsOf 3) ∧ ((((decide ((E.getD i.toNat (0, 0)).1 < 0)) || (decide (n ≤ (E.getD i.toNat (0, 0)).1))) || (decide ((E.getD i.toNat (0, 0)).2 < 0))) = false → CellOk (On w24) (hdB ve) (hdO ve + i.toNat * 2 + 1) (.int .i64 ((E.getD i.toNat (0, 0)).2))) ∧ ((((decide ((E.getD i.toNat (0, 0)).1 < 0)) || (decide (n ≤ (E.getD i.toNat (0, 0)).1))) || (decide ((E.getD i.toNat (0, 0)).2 < 0))) = false → 0 < Try.prog.cellsOf 3) ∧ ((((decide ((E.getD i.toNat (0, 0)).1 < 0)) || (decide (n ≤ (E.getD i.toNat (0, 0)).1))) || (decide ((E.getD i.toNat (0, 0)).2 < 0))) = false → CellOk (On w24) b2 (0 + 0) (.int .i64 n)) ∧ ((((decide ((E.getD i.toNat (0, 0)).1 < 0)) || (decide (n ≤ (E.getD i.toNat (0, 0)).1))) || (decide ((E.getD i.toNat (0, 0)).2 < 0))) = false → True) ∧ (True) ∧ True) hA H ⟨by decide +kernel, by exact box_cell H 0 rfl 1, trivial, ⟨by kernel_rfl, by exact idx_ok (H.arg hE) (by omega) (by omega)⟩, by decide +kernel, by exact cell_flat (i := i) (H.arg hE) (by omega) (by omega) (0, 0) 0, trivial, trivial, fun _ => by decide +kernel, fun _ => by exact box_cell H 0 rfl 1, fun _ => trivial, fun hg0 => by replace hg0 := of_decide_eq_false hg0; exact ⟨by kernel_rfl, by exact idx_ok (H.arg hE) (by omega) (by omega)⟩, fun _ => by decide +kernel, fun hg0 => by replace hg0 := of_decide_eq_false hg0; exact by exact cell_flat (i := i) (H.arg hE) (by omega) (by omega) (0, 0) 0, fun _ => by decide +kernel, fun _ => by exact box_cell H 0 rfl 0, fun _ => trivial, trivial, trivial, fun _ => by decide +kernel, fun _ => by exact box_cell H 0 rfl 1, fun _ => trivial, fun hg0 => by replace hg0 := (⟨of_decide_eq_false ((oF hg0).1), of_decide_eq_false ((oF hg0).2)⟩ : _ ∧ _); exact ⟨by kernel_rfl, by exact idx_ok (H.arg hE) (by omega) (by omega)⟩, fun _ => by decide +kernel, fun hg0 => by replace hg0 := (⟨of_decide_eq_false ((oF hg0).1), of_decide_eq_false ((oF hg0).2)⟩ : _ ∧ _); exact by exact cell_flat (i := i) (H.arg hE) (by omega) (by omega) (0, 0) 1, fun _ => trivial, trivial, trivial, fun _ => by decide +kernel, fun _ => by exact box_cell H 0 rfl 1, fun _ => trivial, fun hg0 => by replace hg0 := (⟨(⟨of_decide_eq_false ((oF ((oF hg0).1)).1), of_decide_eq_false ((oF ((oF hg0).1)).2)⟩ : _ ∧ _), of_decide_eq_false ((oF hg0).2)⟩ : _ ∧ _); exact ⟨by kernel_rfl, by exact idx_ok (H.arg hE) (by omega) (by omega)⟩, fun _ => by decide +kernel, fun hg0 => by replace hg0 := (⟨(⟨of_decide_eq_false ((oF ((oF hg0).1)).1), of_decide_eq_false ((oF ((oF hg0).1)).2)⟩ : _ ∧ _), of_decide_eq_false ((oF hg0).2)⟩ : _ ∧ _); exact by exact cell_flat (i := i) (H.arg hE) (by omega) (by omega) (0, 0) 1, fun _ => by decide +kernel, fun _ => by exact box_cell H 0 rfl 0, fun _ => trivial, trivial, trivial⟩ fun a w28 hA H hG => ?_
        refine hK27 _ _ ?_
        refine go_cond hA (.tmp 69) ((((decide ((E.getD i.toNat (0, 0)).1 < 0)) || (decide (n ≤ (E.getD i.toNat (0, 0)).1))) || (decide ((E.getD i.toNat (0, 0)).2 < 0))) || (decide (n ≤ (E.getD i.toNat (0, 0)).2))) (fun hb29 => ?_) (fun hb29 => ?_)
        · have hhb29 := (oT hb29).imp (fun h => (oT h).imp (fun h => (oT h).imp (fun h => of_decide_eq_true h) (fun h => of_decide_eq_true h)) (fun h => of_decide_eq_true h)) (fun h => of_decide_eq_true h)
          refine go_seq fun K30 hK30 => ?_
          refine q_reg [] [(2, .int .i64 3)] ((True) ∧ True) hA H ⟨trivial, trivial⟩ fun a w31 hA H hG => ?_
          refine hK30 _ _ ?_
          refine go_ret_ ?_
          refine ret_one 2 (.int .i64 3) hA ?_
          exact ans_i' ((rightE_bad (by omega) (by omega) (by omega) h0 (by omega) (by unfold okE; have := hhb29; omega)).symm) H.below
        · have hhb29 := (⟨(⟨(⟨of_decide_eq_false ((oF ((oF ((oF hb29).1)).1)).1), of_decide_eq_false ((oF ((oF ((oF hb29).1)).1)).2)⟩ : _ ∧ _), of_decide_eq_false ((oF ((oF hb29).1)).2)⟩ : _ ∧ _), of_decide_eq_false ((oF hb29).2)⟩ : _ ∧ _)
          refine go_skip ?_
          refine hK26 _ _ ?_
          refine q_reg [] [(1, .pointer (some ⟨b2, 0, none⟩)), (3, .int .i64 (i + 1))] ((True) ∧ (InR .i64 (i + 1)) ∧ (True) ∧ True) hA H ⟨trivial, ⟨by omega, by omega⟩, trivial, trivial⟩ fun a w32 hA H hG => ?_
          refine ⟨(i + 1), ⟨env_sub _ hA, ⟨_, H⟩, ?_⟩, ?_⟩
          · (try dsimp only); exact ⟨by omega, fun j hj => if e : (j : Int) = i then (by rw [show j = i.toNat by omega]; unfold okE; have := hhb29; omega) else hok j (by omega)⟩
          · (try dsimp only); omega
      · have hhb25 := of_decide_eq_false hb25
        refine go_exit 0 ?_
        refine hK17 _ _ ?_
        refine go_seq fun K33 hK33 => ?_
        refine q_reg [] [(2, .int .i64 0)] ((True) ∧ True) hA H ⟨trivial, trivial⟩ fun a w34 hA H hG => ?_
        refine hK33 _ _ ?_
        refine go_ret_ ?_
        refine ret_one 2 (.int .i64 0) hA ?_
        exact ans_i' ((rightE_ok (by omega) (by omega) (by omega) (by omega) hok).symm) H.below

end Go.Proofs.Ytahonnlgkmimlaa

set_option linter.unusedSimpArgs false
set_option linter.unusedVariables false
namespace Go.Proofs.Ytahonnlgkmimlaa
open Go.RowKit

end Go.Proofs.Ytahonnlgkmimlaa

set_option linter.unusedSimpArgs false
set_option linter.unusedVariables false
namespace Go.Proofs.Ytahonnlgkmimlaa
open Go.RowKit

end Go.Proofs.Ytahonnlgkmimlaa

set_option linter.unusedSimpArgs false
set_option linter.unusedVariables false
namespace Go.Proofs.Ytahonnlgkmimlaa
open Go.RowKit

set_option maxRecDepth 100000 in
set_option maxHeartbeats 1000000 in
theorem ror_any (va vb : Value) (la lb : List Int) (o : Orig) (gA : Rd (· < o.w.heap.size) o.w va la) (gB : Rd (· < o.w.heap.size) o.w vb lb) (hs : la.length ≤ 1000000) (hs2 : lb.length ≤ 1000000) :
  Calls Try.prog 44 [va, vb].toArray o.w (Giv o (fun S v w' => Rd S w' v (mergeL la lb 1))) := by
  refine enter Try.f44 75 Try.func44 fun a hA => ?_
  replace hA := env_sub [(0, va), (1, vb)] hA
  have H := Fr.start o
  refine go_seq fun K1 hK1 => ?_
  refine q_reg [] [(0, va), (1, vb)] ((True) ∧ True) hA H ⟨trivial, trivial⟩ fun a w2 hA H hG => ?_
  refine hK1 _ _ ?_
  refine go_seq fun K3 hK3 => ?_
  refine q_reg [] [(0, va), (1, vb), (5, (.slice none 0 0))] ((True) ∧ True) hA H ⟨trivial, trivial⟩ fun a w4 hA H hG => ?_
  refine hK3 _ _ ?_
  refine go_seq fun K5 hK5 => ?_
  refine q_reg [] [(0, va), (1, vb), (5, (.slice none 0 0)), (6, .int .i64 0), (7, .int .i64 0)] ((True) ∧ (True) ∧ True) hA H ⟨trivial, trivial, trivial⟩ fun a w6 hA H hG => ?_
  refine hK5 _ _ ?_
  refine go_seq fun K7 hK7 => ?_
  refine go_block 0 ?_
  replace H := H.newRow (α := Int) 3
  refine go_loop_ (Int × Int × Value × List Int) (fun x_ a W => (fun (i : Int) (k : Int) (vr : Value) (l : List Int) => EnvOk 75 a (keepEnv [(0, va), (1, vb), (5, vr), (6, .int .i64 i), (7, .int .i64 k)]) ∧ (∃ S, Fr o W S [.row 3 vr l]) ∧ 0 ≤ i ∧ 0 ≤ k ∧ i ≤ (la.length : Int) ∧ k ≤ (lb.length : Int) ∧ (l.length : Int) ≤ i + k ∧ l ++ orW la lb i k = mergeL la lb 1) x_.1 x_.2.1 x_.2.2.1 x_.2.2.2) (fun x_ => (fun (i : Int) (k : Int) (vr : Value) (l : List Int) => ((la.length : Int) - i + (lb.length : Int) - k).toNat) x_.1 x_.2.1 x_.2.2.1 x_.2.2.2) (0, 0, .slice none 0 0, []) ?_ (fun x_ a w9 hI => ?_)
  · (try dsimp only); exact ⟨env_sub _ hA, ⟨_, H⟩, by omega, by omega, by omega, by omega, by simp, rfl⟩
  obtain ⟨i, k, vr, l⟩ := x_
  obtain ⟨hA, ⟨S, H⟩, h0, h0b, h1, h1b, h2, hi⟩ := hI
  try dsimp only at h0 h0b h1 h1b h2 hi
  refine go_seq fun K10 hK10 => ?_
  refine go_seq fun K11 hK11 => ?_
  refine q_reg [(10, .int .i64 (la.length : Int)), (15, .int .i64 (lb.length : Int))] [(0, va), (1, vb), (5, vr), (6, .int .i64 i), (7, .int .i64 k), (17, .bool ((decide (i < (la.length : Int))) || (decide (k < (lb.length : Int)))))] ((True) ∧ (True) ∧ (LenOk va (la.length : Int)) ∧ (True) ∧ (True) ∧ ((decide (i < (la.length : Int))) = false → True) ∧ ((decide (i < (la.length : Int))) = false → True) ∧ ((decide (i < (la.length : Int))) = false → LenOk vb (lb.length : Int)) ∧ ((decide (i < (la.length : Int))) = false → True) ∧ (True) ∧ True) hA H ⟨trivial, trivial, by exact len_ok (H.arg gA), trivial, trivial, fun _ => trivial, fun _ => trivial, fun _ => by exact len_ok (H.arg gB), fun _ => trivial, trivial, trivial⟩ fun a w12 hA H hG => ?_
  refine hK11 _ _ ?_
  refine go_cond hA (.tmp 17) ((decide (i < (la.length : Int))) || (decide (k < (lb.length : Int)))) (fun hb13 => ?_) (fun hb13 => ?_)
  · have hhb13 := (oT hb13).imp (fun h => of_decide_eq_true h) (fun h => of_decide_eq_true h)
    refine go_skip ?_
    refine hK10 _ _ ?_
    refine go_block 1 ?_
    refine go_seq fun K14 hK14 => ?_
    refine q_draw [(20, .int .i64 (lb.length : Int)), (25, .int .i64 (la.length : Int)), (31, .int .i64 (la.getD i.toNat 0)), (35, .int .i64 (lb.getD k.toNat 0))] [(0, va), (1, vb), (5, vr), (6, .int .i64 i), (7, .int .i64 k), (38, .bool ((decide (k = (lb.length : Int))) || ((decide (i < (la.length : Int))) && (decide ((la.getD i.toNat 0) ≤ (lb.getD k.toNat 0))))))] ((True) ∧ (True) ∧ (LenOk vb (lb.length : Int)) ∧ (True) ∧ (True) ∧ ((decide (k = (lb.length : Int))) = false → True) ∧ ((decide (k = (lb.length : Int))) = false → True) ∧ ((decide (k = (lb.length : Int))) = false → LenOk va (la.length : Int)) ∧ ((decide (k = (lb.length : Int))) = false → True) ∧ ((decide (k = (lb.length : Int))) = false → True) ∧ ((decide (k = (lb.length : Int))) = false → (decide (i < (la.length : Int))) = true → True) ∧ ((decide (k = (lb.length : Int))) = false → (decide (i < (la.length : Int))) = true → True) ∧ ((decide (k = (lb.length : Int))) = false → (decide (i < (la.length : Int))) = true → (Try.prog.info? 3).isSome = true ∧ IdxOk va i) ∧ ((decide (k = (lb.length : Int))) = false → (decide (i < (la.length : Int))) = true → CellOk (On w12) (hdB va) (hdO va + i.toNat * 1) (.int .i64 (la.getD i.toNat 0))) ∧ ((decide (k = (lb.length : Int))) = false → (decide (i < (la.length : Int))) = true → True) ∧ ((decide (k = (lb.length : Int))) = false → (decide (i < (la.length : Int))) = true → True) ∧ ((decide (k = (lb.length : Int))) = false → (decide (i < (la.length : Int))) = true → (Try.prog.info? 3).isSome = true ∧ IdxOk vb k) ∧ ((decide (k = (lb.length : Int))) = false → (decide (i < (la.length : Int))) = true → CellOk (On w12) (hdB vb) (hdO vb + k.toNat * 1) (.int .i64 (lb.getD k.toNat 0))) ∧ ((decide (k = (lb.length : Int))) = false → (decide (i < (la.length : Int))) = true → True) ∧ ((decide (k = (lb.length : Int))) = false → True) ∧ (True) ∧ True) hA H ⟨trivial, trivial, by exact len_ok (H.arg gB), trivial, trivial, fun _ => trivial, fun _ => trivial, fun _ => by exact len_ok (H.arg gA), fun _ => trivial, fun _ => trivial, fun _ _ => trivial, fun _ _ => trivial, fun hg0 hg1 => by replace hg0 := of_decide_eq_false hg0; replace hg1 := of_decide_eq_true hg1; exact ⟨by kernel_rfl, by exact idx_ok (H.arg gA) (by omega) (by omega)⟩, fun hg0 hg1 => by replace hg0 := of_decide_eq_false hg0; replace hg1 := of_decide_eq_true hg1; exact by exact cell_flat (i := i) (H.arg gA) (by omega) (by omega) 0 0, fun _ _ => trivial, fun _ _ => trivial, fun hg0 hg1 => by replace hg0 := of_decide_eq_false hg0; replace hg1 := of_decide_eq_true hg1; exact ⟨by kernel_rfl, by exact idx_ok (H.arg gB) (by omega) (by omega)⟩, fun hg0 hg1 => by replace hg0 := of_decide_eq_false hg0; replace hg1 := of_decide_eq_true hg1; exact by exact cell_flat (i := k) (H.arg gB) (by omega) (by omega) 0 0, fun _ _ => trivial, fun _ => trivial, trivial, trivial⟩ fun a w15 hA H hG => ?_
    refine hK14 _ _ ?_
    refine go_cond hA (.tmp 38) ((decide (k = (lb.length : Int))) || ((decide (i < (la.length : Int))) && (decide ((la.getD i.toNat 0) ≤ (lb.getD k.toNat 0))))) (fun hb16 => ?_) (fun hb16 => ?_)
    · have hhb16 := (oT hb16).imp (fun h => of_decide_eq_true h) (fun h => (⟨of_decide_eq_true ((aT h).1), of_decide_eq_true ((aT h).2)⟩ : _ ∧ _))
      refine go_seq fun K17 hK17 => ?_
      refine go_seq fun K18 hK18 => ?_
      refine q_draw [(41, .int .i64 (lb.length : Int)), (47, .int .i64 (la.getD i.toNat 0)), (51, .int .i64 (lb.getD k.toNat 0))] [(0, va), (1, vb), (5, vr), (6, .int .i64 i), (7, .int .i64 k), (53, .bool ((decide (k < (lb.length : Int))) && (decide ((la.getD i.toNat 0) = (lb.getD k.toNat 0)))))] ((True) ∧ (True) ∧ (LenOk vb (lb.length : Int)) ∧ (True) ∧ (True) ∧ ((decide (k < (lb.length : Int))) = true → True) ∧ ((decide (k < (lb.length : Int))) = true → True) ∧ ((decide (k < (lb.length : Int))) = true → (Try.prog.info? 3).isSome = true ∧ IdxOk va i) ∧ ((decide (k < (lb.length : Int))) = true → CellOk (On w15) (hdB va) (hdO va + i.toNat * 1) (.int .i64 (la.getD i.toNat 0))) ∧ ((decide (k < (lb.length : Int))) = true → True) ∧ ((decide (k < (lb.length : Int))) = true → True) ∧ ((decide (k < (lb.length : Int))) = true → (Try.prog.info? 3).isSome = true ∧ IdxOk vb k) ∧ ((decide (k < (lb.length : Int))) = true → CellOk (On w15) (hdB vb) (hdO vb + k.toNat * 1) (.int .i64 (lb.getD k.toNat 0))) ∧ ((decide (k < (lb.length : Int))) = true → True) ∧ (True) ∧ True) hA H ⟨trivial, trivial, by exact len_ok (H.arg gB), trivial, trivial, fun _ => trivial, fun _ => trivial, fun hg0 => by replace hg0 := of_decide_eq_true hg0; exact ⟨by kernel_rfl, by exact idx_ok (H.arg gA) (by omega) (by omega)⟩, fun hg0 => by replace hg0 := of_decide_eq_true hg0; exact by exact cell_flat (i := i) (H.arg gA) (by omega) (by omega) 0 0, fun _ => trivial, fun _ => trivial, fun hg0 => by replace hg0 := of_decide_eq_true hg0; exact ⟨by kernel_rfl, by exact idx_ok (H.arg gB) (by omega) (by omega)⟩, fun hg0 => by replace hg0 := of_decide_eq_true hg0; exact by exact cell_flat (i := k) (H.arg gB) (by omega) (by omega) 0 0, fun _ => trivial, trivial, trivial⟩ fun a w19 hA H hG => ?_
      refine hK18 _ _ ?_
      refine go_cond hA (.tmp 53) ((decide (k < (lb.length : Int))) && (decide ((la.getD i.toNat 0) = (lb.getD k.toNat 0)))) (fun hb20 => ?_) (fun hb20 => ?_)
      · have hhb20 := (⟨of_decide_eq_true ((aT hb20).1), of_decide_eq_true ((aT hb20).2)⟩ : _ ∧ _)
        refine q_reg [] [(0, va), (1, vb), (5, vr), (6, .int .i64 i), (7, .int .i64 (k + 1))] ((True) ∧ (InR .i64 (k + 1)) ∧ (True) ∧ True) hA H ⟨trivial, ⟨by omega, by omega⟩, trivial, trivial⟩ fun a w21 hA H hG => ?_
        refine hK17 _ _ ?_
        refine go_seq fun K22 hK22 => ?_
        refine region_list ?_
        refine q_list 0 5 [(60, .int .i64 (la.getD i.toNat 0))] [(0, va), (1, vb), (6, .int .i64 i), (7, .int .i64 (k + 1)), (56, vr), (60, .int .i64 (la.getD i.toNat 0))] ((True) ∧ (True) ∧ (True) ∧ ((Try.prog.info? 3).isSome = true ∧ IdxOk va i) ∧ (CellOk (On w21) (hdB va) (hdO va + i.toNat * 1) (.int .i64 (la.getD i.toNat 0))) ∧ True) hA H ⟨trivial, trivial, trivial, ⟨by kernel_rfl, by exact idx_ok (H.arg gA) (by omega) (by omega)⟩, by exact cell_flat (i := i) (H.arg gA) (by omega) (by omega) 0 0, trivial⟩ fun a w23 hA H hG => ?_
        refine list_at 5 ?_; refine q_lit 5 61 27 1 #[(0, .tmp 60)] 3 [(0, .int .i64 (la.getD i.toNat 0))] [.int .i64 (la.getD i.toNat 0)] [(0, va), (1, vb), (6, .int .i64 i), (7, .int .i64 (k + 1)), (56, vr)] hA H fun b24 a w25 H hA hG hge_b24 => ?_
        clear hge_b24
        refine list_at 6 ?_; refine q_push 6 62 (.tmp 56) (.tmp 61) 1 0 b24 1 1 vr l [(la.getD i.toNat 0)] [.int .i64 (la.getD i.toNat 0)] [(0, va), (1, vb), (6, .int .i64 i), (7, .int .i64 (k + 1))] hA H Try.E27 rfl rfl (by exact (RowRd.single (α := Int) rfl)) rfl (by simp only [List.length_cons, List.length_nil, List.length_append]; omega) (by decide) fun v26 a w27 H hA hG => ?_
        replace H : Fr _ _ _ [.row 3 v26 (l ++ [(la.getD i.toNat 0)])] := H.drop 0
        refine q_list 7 1 [] [(0, va), (1, vb), (5, v26), (6, .int .i64 i), (7, .int .i64 (k + 1))] ((True) ∧ True) hA H ⟨trivial, trivial⟩ fun a w28 hA H hG => ?_
        refine list_end ?_
        refine hK22 _ _ ?_
        refine q_reg [] [(0, va), (1, vb), (5, v26), (6, .int .i64 (i + 1)), (7, .int .i64 (k + 1))] ((True) ∧ (InR .i64 (i + 1)) ∧ (True) ∧ True) hA H ⟨trivial, ⟨by omega, by omega⟩, trivial, trivial⟩ fun a w29 hA H hG => ?_
        refine ⟨(i + 1, k + 1, v26, l ++ [(la.getD i.toNat 0)]), ⟨env_sub _ hA, ⟨_, H⟩, ?_⟩, ?_⟩
        · (try dsimp only); exact ⟨by omega, by omega, by omega, by omega, by (try simp only [List.length_append, List.length_cons, List.length_nil]); omega, by rw [orW_round h0 h0b (by omega)] at hi; (repeat' split at hi) <;> first | (exfalso; omega) | ((try simp only [List.append_assoc] at hi ⊢); exact hi)⟩
        · (try dsimp only); omega
      · have hhb20 := (aF hb20).imp (fun h => of_decide_eq_false h) (fun h => of_decide_eq_false h)
        refine go_skip ?_
        refine hK17 _ _ ?_
        refine go_seq fun K30 hK30 => ?_
        refine region_list ?_
        refine q_list 0 5 [(60, .int .i64 (la.getD i.toNat 0))] [(0, va), (1, vb), (6, .int .i64 i), (7, .int .i64 k), (56, vr), (60, .int .i64 (la.getD i.toNat 0))] ((True) ∧ (True) ∧ (True) ∧ ((Try.prog.info? 3).isSome = true ∧ IdxOk va i) ∧ (CellOk (On w19) (hdB va) (hdO va + i.toNat * 1) (.int .i64 (la.getD i.toNat 0))) ∧ True) hA H ⟨trivial, trivial, trivial, ⟨by kernel_rfl, by exact idx_ok (H.arg gA) (by omega) (by omega)⟩, by exact cell_flat (i := i) (H.arg gA) (by omega) (by omega) 0 0, trivial⟩ fun a w31 hA H hG => ?_
        refine list_at 5 ?_; refine q_lit 5 61 27 1 #[(0, .tmp 60)] 3 [(0, .int .i64 (la.getD i.toNat 0))] [.int .i64 (la.getD i.toNat 0)] [(0, va), (1, vb), (6, .int .i64 i), (7, .int .i64 k), (56, vr)] hA H fun b32 a w33 H hA hG hge_b32 => ?_
        clear hge_b32
        refine list_at 6 ?_; refine q_push 6 62 (.tmp 56) (.tmp 61) 1 0 b32 1 1 vr l [(la.getD i.toNat 0)] [.int .i64 (la.getD i.toNat 0)] [(0, va), (1, vb), (6, .int .i64 i), (7, .int .i64 k)] hA H Try.E27 rfl rfl (by exact (RowRd.single (α := Int) rfl)) rfl (by simp only [List.length_cons, List.length_nil, List.length_append]; omega) (by decide) fun v34 a w35 H hA hG => ?_
        replace H : Fr _ _ _ [.row 3 v34 (l ++ [(la.getD i.toNat 0)])] := H.drop 0
        refine q_list 7 1 [] [(0, va), (1, vb), (5, v34), (6, .int .i64 i), (7, .int .i64 k)] ((True) ∧ True) hA H ⟨trivial, trivial⟩ fun a w36 hA H hG => ?_
        refine list_end ?_
        refine hK30 _ _ ?_
        refine q_reg [] [(0, va), (1, vb), (5, v34), (6, .int .i64 (i + 1)), (7, .int .i64 k)] ((True) ∧ (InR .i64 (i + 1)) ∧ (True) ∧ True) hA H ⟨trivial, ⟨by omega, by omega⟩, trivial, trivial⟩ fun a w37 hA H hG => ?_
        refine ⟨(i + 1, k, v34, l ++ [(la.getD i.toNat 0)]), ⟨env_sub _ hA, ⟨_, H⟩, ?_⟩, ?_⟩
        · (try dsimp only); exact ⟨by omega, by omega, by omega, by omega, by (try simp only [List.length_append, List.length_cons, List.length_nil]); omega, by rw [orW_round h0 h0b (by omega)] at hi; (repeat' split at hi) <;> first | (exfalso; omega) | ((try simp only [List.append_assoc] at hi ⊢); exact hi)⟩
        · (try dsimp only); omega
    · have hhb16 := (⟨of_decide_eq_false ((oF hb16).1), (aF ((oF hb16).2)).imp (fun h => of_decide_eq_false h) (fun h => of_decide_eq_false h)⟩ : _ ∧ _)
      refine go_seq fun K38 hK38 => ?_
      refine region_list ?_
      refine q_list 0 5 [(69, .int .i64 (lb.getD k.toNat 0))] [(0, va), (1, vb), (6, .int .i64 i), (7, .int .i64 k), (65, vr), (69, .int .i64 (lb.getD k.toNat 0))] ((True) ∧ (True) ∧ (True) ∧ ((Try.prog.info? 3).isSome = true ∧ IdxOk vb k) ∧ (CellOk (On w15) (hdB vb) (hdO vb + k.toNat * 1) (.int .i64 (lb.getD k.toNat 0))) ∧ True) hA H ⟨trivial, trivial, trivial, ⟨by kernel_rfl, by exact idx_ok (H.arg gB) (by omega) (by omega)⟩, by exact cell_flat (i := k) (H.arg gB) (by omega) (by omega) 0 0, trivial⟩ fun a w39 hA H hG => ?_
      refine list_at 5 ?_; refine q_lit 5 70 27 1 #[(0, .tmp 69)] 3 [(0, .int .i64 (lb.getD k.toNat 0))] [.int .i64 (lb.getD k.toNat 0)] [(0, va), (1, vb), (6, .int .i64 i), (7, .int .i64 k), (65, vr)] hA H fun b40 a w41 H hA hG hge_b40 => ?_
      clear hge_b40
      refine list_at 6 ?_; refine q_push 6 71 (.tmp 65) (.tmp 70) 1 0 b40 1 1 vr l [(lb.getD k.toNat 0)] [.int .i64 (lb.getD k.toNat 0)] [(0, va), (1, vb), (6, .int .i64 i), (7, .int .i64 k)] hA H Try.E27 rfl rfl (by exact (RowRd.single (α := Int) rfl)) rfl (by simp only [List.length_cons, List.length_nil, List.length_append]; omega) (by decide) fun v42 a w43 H hA hG => ?_
      replace H : Fr _ _ _ [.row 3 v42 (l ++ [(lb.getD k.toNat 0)])] := H.drop 0
      refine q_list 7 1 [] [(0, va), (1, vb), (5, v42), (6, .int .i64 i), (7, .int .i64 k)] ((True) ∧ True) hA H ⟨trivial, trivial⟩ fun a w44 hA H hG => ?_
      refine list_end ?_
      refine hK38 _ _ ?_
      refine q_reg [] [(0, va), (1, vb), (5, v42), (6, .int .i64 i), (7, .int .i64 (k + 1))] ((True) ∧ (InR .i64 (k + 1)) ∧ (True) ∧ True) hA H ⟨trivial, ⟨by omega, by omega⟩, trivial, trivial⟩ fun a w45 hA H hG => ?_
      refine ⟨(i, k + 1, v42, l ++ [(lb.getD k.toNat 0)]), ⟨env_sub _ hA, ⟨_, H⟩, ?_⟩, ?_⟩
      · (try dsimp only); exact ⟨by omega, by omega, by omega, by omega, by (try simp only [List.length_append, List.length_cons, List.length_nil]); omega, by rw [orW_round h0 h0b (by omega)] at hi; (repeat' split at hi) <;> first | (exfalso; omega) | ((try simp only [List.append_assoc] at hi ⊢); exact hi)⟩
      · (try dsimp only); omega
  · have hhb13 := (⟨of_decide_eq_false ((oF hb13).1), of_decide_eq_false ((oF hb13).2)⟩ : _ ∧ _)
    refine go_exit 0 ?_
    refine hK7 _ _ ?_
    refine go_seq fun K46 hK46 => ?_
    refine q_reg [] [(4, vr)] ((True) ∧ (True) ∧ True) hA H ⟨trivial, trivial, trivial⟩ fun a w47 hA H hG => ?_
    refine hK46 _ _ ?_
    refine go_ret_ ?_
    refine ret_one 4 vr hA ?_
    have ho := (H.give 0 rfl)
    rw [orW_end (by omega), List.append_nil] at hi; subst hi; exact ⟨_, rfl, ho, H.below⟩

end Go.Proofs.Ytahonnlgkmimlaa

set_option linter.unusedSimpArgs false
set_option linter.unusedVariables false
namespace Go.Proofs.Ytahonnlgkmimlaa
open Go.RowKit

set_option maxRecDepth 100000 in
set_option maxHeartbeats 1000000 in
theorem span_any (n : Int) (ve : Value) (E : List (Int × Int)) (vl : Value) (L : List Int) (o : Orig) (hn : -9223372036854775808 ≤ n ∧ n ≤ 9223372036854775807) (hE : Rd (· < o.w.heap.size) o.w ve E) (hL : Rd (· < o.w.heap.size) o.w vl L) :
  Calls Try.prog 26 [.agg #[.int .i64 n, ve], vl].toArray o.w (Giv o (fun S v w' => ∃ p, v = .tuple #[p, .int .i64 (spanE n E L).2] ∧ Rd S w' p (spanE n E L).1)) := by
  have hlenE := rd_len hE
  refine enter Try.f26 61 Try.func26 fun a hA => ?_
  replace hA := env_sub [(0, .agg #[.int .i64 n, ve]), (1, vl)] hA
  have H := Fr.start o
  refine go_seq fun K1 hK1 => ?_
  refine region_list ?_
  refine list_at 0 ?_; refine q_box 0 2 24 (.tmp 0) (.agg #[.int .i64 n, ve]) [.int .i64 n, ve] [(1, vl)] hA H fun b2 a w3 H hA hG hge_b2 => ?_
  clear hge_b2
  refine list_at 1 ?_; refine q_alloc 1 4 29 [(.slice none 0 0), (.slice none 0 0)] [(1, vl), (2, .pointer (some ⟨b2, 0, none⟩))] hA H fun b4 a w5 H hA hG hge_b4 => ?_
  clear hge_b4
  refine q_list 2 1 [] [(1, vl), (2, .pointer (some ⟨b2, 0, none⟩)), (4, .pointer (some ⟨b4, 0, none⟩))] ((True) ∧ True) hA H ⟨trivial, trivial⟩ fun a w6 hA H hG => ?_
  refine list_end ?_
  refine hK1 _ _ ?_
  refine go_seq fun K7 hK7 => ?_
  refine go_seq fun K8 hK8 => ?_
  refine q_reg [(10, .agg #[.int .i64 n, ve]), (11, .int .i64 (rightE n E))] [(1, vl), (2, .pointer (some ⟨b2, 0, none⟩)), (4, .pointer (some ⟨b4, 0, none⟩)), (6, .int .i64 (rightE n E))] (((Try.prog.info? 24).isSome = true ∧ RowOk (On w6) b2 (0) (Try.prog.cellsOf 24) #[.int .i64 n, ve]) ∧ (Callable Try.prog 20 ∧ CallOk Try.prog (On w6) 20 [.agg #[.int .i64 n, ve]].toArray (.int .i64 (rightE n E))) ∧ (True) ∧ True) hA H ⟨⟨by kernel_rfl, by exact box_row H 1 rfl 0 2⟩, ⟨callable_of, callOk_of fun w hw => by exact right_any n ve E w (by omega) (((H.on hw).arg hE))⟩, trivial, trivial⟩ fun a w9 hA H hG => ?_
  refine hK8 _ _ ?_
  refine go_seq fun K10 hK10 => ?_
  refine q_reg [] [(1, vl), (2, .pointer (some ⟨b2, 0, none⟩)), (4, .pointer (some ⟨b4, 0, none⟩)), (6, .int .i64 (rightE n E)), (13, .bool (!decide (rightE n E = 0)))] ((True) ∧ (True) ∧ True) hA H ⟨trivial, trivial, trivial⟩ fun a w11 hA H hG => ?_
  refine hK10 _ _ ?_
  refine go_cond hA (.tmp 13) (!decide (rightE n E = 0)) (fun hb12 => ?_) (fun hb12 => ?_)
  · have hhb12 := of_decide_eq_false (nT hb12)
    refine go_seq fun K13 hK13 => ?_
    refine region_list ?_
    refine q_list 0 2 [(14, .agg #[(.slice none 0 0), (.slice none 0 0)])] [(4, .pointer (some ⟨b4, 0, none⟩)), (14, .agg #[(.slice none 0 0), (.slice none 0 0)]), (15, .int .i64 (rightE n E))] ((∀ w, (Instr.build 29 #[]).run Try.prog w = .ok (.agg #[(.slice none 0 0), (.slice none 0 0)]) w) ∧ (True) ∧ True) hA H ⟨fun w => by kernel_rfl, trivial, trivial⟩ fun a w14 hA H hG => ?_
    refine list_at 2 ?_; refine q_store 2 29 (.tmp 4) (.tmp 14) 0 b4 (0) 29 [(.slice none 0 0), (.slice none 0 0)] [(.slice none 0 0), (.slice none 0 0)] [(.slice none 0 0), (.slice none 0 0)] (.agg #[(.slice none 0 0), (.slice none 0 0)]) [(4, .pointer (some ⟨b4, 0, none⟩)), (15, .int .i64 (rightE n E))] hA H rfl rfl (Nat.le_of_ble_eq_true (by kernel_rfl)) rfl (fun v hv => by simp only [List.mem_cons, List.not_mem_nil, or_false] at hv; rcases hv with rfl | rfl; exact rfl; exact rfl) fun a w15 H hA hG => ?_
    replace H : Fr _ _ _ [.box b4 29 [(.slice none 0 0), (.slice none 0 0)], .box b2 24 [.int .i64 n, ve]] := H
    refine q_list 3 1 [] [(4, .pointer (some ⟨b4, 0, none⟩)), (5, .int .i64 (rightE n E))] ((True) ∧ True) hA H ⟨trivial, trivial⟩ fun a w16 hA H hG => ?_
    refine list_end ?_
    refine hK13 _ _ ?_
    refine go_ret_ ?_
    refine ret_cell2 4 5 29 0 b4 29 [(.slice none 0 0), (.slice none 0 0)] #[(.slice none 0 0), (.slice none 0 0)] (.int .i64 (rightE n E)) hA H rfl ?_ (ht := ⟨_, Try.underlying29⟩)
    have e1 : spanE n E L = (([], []), rightE n E) := by unfold spanE; rw [if_pos hhb12]
    rw [e1]; exact ⟨_, rfl, ⟨_, rfl, rd_two rd_nil rd_nil⟩, H.below⟩
  · have hhb12 := of_decide_eq_true (nF hb12)
    refine go_skip ?_
    refine hK7 _ _ ?_
    refine go_seq fun K17 hK17 => ?_
    refine go_seq fun K18 hK18 => ?_
    refine q_reg [(18, ve), (19, .int .i64 (E.length : Int)), (20, .bool (decide (risesP L (E.length : Int))))] [(1, vl), (2, .pointer (some ⟨b2, 0, none⟩)), (4, .pointer (some ⟨b4, 0, none⟩)), (21, .bool (!(decide (risesP L (E.length : Int)))))] ((True) ∧ (0 < Try.prog.cellsOf 22) ∧ (CellOk (On w11) b2 (0 + 1) (ve)) ∧ (LenOk ve (E.length : Int)) ∧ (Callable Try.prog 73 ∧ CallOk Try.prog (On w11) 73 [vl, .int .i64 (E.length : Int)].toArray (.bool (decide (risesP L (E.length : Int))))) ∧ (True) ∧ True) hA H ⟨trivial, by decide +kernel, by exact box_cell H 1 rfl 1, by exact len_ok (H.arg hE), ⟨callable_of, callOk_of fun w hw => by exact rising_any vl L (E.length : Int) w (((H.on hw).arg hL))⟩, trivial, trivial⟩ fun a w19 hA H hG => ?_
    refine hK18 _ _ ?_
    refine go_cond hA (.tmp 21) (!(decide (risesP L (E.length : Int)))) (fun hb20 => ?_) (fun hb20 => ?_)
    · have hhb20 := of_decide_eq_false (nT hb20)
      refine go_seq fun K21 hK21 => ?_
      refine region_list ?_
      refine q_list 0 1 [(22, .agg #[(.slice none 0 0), (.slice none 0 0)])] [(4, .pointer (some ⟨b4, 0, none⟩)), (22, .agg #[(.slice none 0 0), (.slice none 0 0)])] ((∀ w, (Instr.build 29 #[]).run Try.prog w = .ok (.agg #[(.slice none 0 0), (.slice none 0 0)]) w) ∧ True) hA H ⟨fun w => by kernel_rfl, trivial⟩ fun a w22 hA H hG => ?_
      refine list_at 1 ?_; refine q_store 1 29 (.tmp 4) (.tmp 22) 0 b4 (0) 29 [(.slice none 0 0), (.slice none 0 0)] [(.slice none 0 0), (.slice none 0 0)] [(.slice none 0 0), (.slice none 0 0)] (.agg #[(.slice none 0 0), (.slice none 0 0)]) [(4, .pointer (some ⟨b4, 0, none⟩))] hA H rfl rfl (Nat.le_of_ble_eq_true (by kernel_rfl)) rfl (fun v hv => by simp only [List.mem_cons, List.not_mem_nil, or_false] at hv; rcases hv with rfl | rfl; exact rfl; exact rfl) fun a w23 H hA hG => ?_
      replace H : Fr _ _ _ [.box b4 29 [(.slice none 0 0), (.slice none 0 0)], .box b2 24 [.int .i64 n, ve]] := H
      refine q_list 2 1 [] [(4, .pointer (some ⟨b4, 0, none⟩)), (5, .int .i64 4)] ((True) ∧ True) hA H ⟨trivial, trivial⟩ fun a w24 hA H hG => ?_
      refine list_end ?_
      refine hK21 _ _ ?_
      refine go_ret_ ?_
      refine ret_cell2 4 5 29 0 b4 29 [(.slice none 0 0), (.slice none 0 0)] #[(.slice none 0 0), (.slice none 0 0)] (.int .i64 4) hA H rfl ?_ (ht := ⟨_, Try.underlying29⟩)
      have e1 : spanE n E L = (([], []), 4) := by unfold spanE; rw [if_neg (by omega), if_pos hhb20]
      rw [e1]; exact ⟨_, rfl, ⟨_, rfl, rd_two rd_nil rd_nil⟩, H.below⟩
    · have hhb20 := of_decide_eq_true (nF hb20)
      refine go_skip ?_
      refine hK17 _ _ ?_
      refine go_seq fun K25 hK25 => ?_
      have hr0 := rightE_0 (n := n) (E := E) (by omega)
      have hr1 := hhb20
      have hl9 := rises_len hr1 (by omega)
      refine region_list ?_
      refine list_at 0 ?_; refine q_alloc 0 7 29 [(.slice none 0 0), (.slice none 0 0)] [(1, vl), (2, .pointer (some ⟨b2, 0, none⟩)), (4, .pointer (some ⟨b4, 0, none⟩))] hA H fun b26 a w27 H hA hG hge_b26 => ?_
      clear hge_b26
      replace H := H.newRow (α := Int) 3
      replace H := H.newRow (α := Int) 3
      refine list_end ?_
      refine hK25 _ _ ?_
      refine go_seq fun K28 hK28 => ?_
      refine go_seq fun K29 hK29 => ?_
      refine q_reg [(24, .int .i64 (L.length : Int))] [(2, .pointer (some ⟨b2, 0, none⟩)), (4, .pointer (some ⟨b4, 0, none⟩)), (7, .pointer (some ⟨b26, 0, none⟩)), (23, vl), (24, .int .i64 (L.length : Int)), (25, .int .i64 0)] ((True) ∧ (LenOk vl (L.length : Int)) ∧ (True) ∧ True) hA H ⟨trivial, by exact len_ok (H.arg hL), trivial, trivial⟩ fun a w30 hA H hG => ?_
      refine hK29 _ _ ?_
      refine go_block 0 ?_
      refine go_loop_ (Int × Value × Value × List Int × List Int) (fun x_ a W => (fun (i : Int) (vr : Value) (vr2 : Value) (l : List Int) (l2 : List Int) => EnvOk 61 a (keepEnv [(2, .pointer (some ⟨b2, 0, none⟩)), (4, .pointer (some ⟨b4, 0, none⟩)), (7, .pointer (some ⟨b26, 0, none⟩)), (23, vl), (24, .int .i64 (L.length : Int)), (25, .int .i64 i)]) ∧ (∃ S, Fr o W S [.row 3 vr2 l2, .row 3 vr l, .box b26 29 [vr, vr2], .box b4 29 [(.slice none 0 0), (.slice none 0 0)], .box b2 24 [.int .i64 n, ve]]) ∧ 0 ≤ i ∧ i ≤ (L.length : Int) ∧ (l.length : Int) ≤ 2 * i ∧ (l2.length : Int) ≤ i ∧ l ++ endsL E (L.drop i.toNat) = endsL E L ∧ l2 ++ L.drop i.toNat = L) x_.1 x_.2.1 x_.2.2.1 x_.2.2.2.1 x_.2.2.2.2) (fun x_ => (fun (i : Int) (vr : Value) (vr2 : Value) (l : List Int) (l2 : List Int) => ((L.length : Int) - i).toNat) x_.1 x_.2.1 x_.2.2.1 x_.2.2.2.1 x_.2.2.2.2) (0, .slice none 0 0, .slice none 0 0, [], []) ?_ (fun x_ a w32 hI => ?_)
      · (try dsimp only); exact ⟨env_sub _ hA, ⟨_, H⟩, by omega, by omega, by simp, by simp, by simp, by simp⟩
      obtain ⟨i, vr, vr2, l, l2⟩ := x_
      obtain ⟨hA, ⟨S, H⟩, h0, h0b, h1, h2, hi, hi2⟩ := hI
      try dsimp only at h0 h0b h1 h2 hi hi2
      refine go_seq fun K33 hK33 => ?_
      refine q_reg [] [(2, .pointer (some ⟨b2, 0, none⟩)), (4, .pointer (some ⟨b4, 0, none⟩)), (7, .pointer (some ⟨b26, 0, none⟩)), (23, vl), (24, .int .i64 (L.length : Int)), (25, .int .i64 i), (26, .bool (decide (i < (L.length : Int))))] ((True) ∧ True) hA H ⟨trivial, trivial⟩ fun a w34 hA H hG => ?_
      refine hK33 _ _ ?_
      refine go_seq fun K35 hK35 => ?_
      refine go_cond hA (.tmp 26) (decide (i < (L.length : Int))) (fun hb36 => ?_) (fun hb36 => ?_)
      · have hhb36 := of_decide_eq_true hb36
        refine go_skip ?_
        refine hK35 _ _ ?_
        refine go_seq fun K37 hK37 => ?_
        refine go_block 1 ?_
        refine go_seq fun K38 hK38 => ?_
        have hx := hr1 i.toNat (by omega)
        refine q_reg [(28, .int .i64 (L.getD i.toNat 0))] [(2, .pointer (some ⟨b2, 0, none⟩)), (4, .pointer (some ⟨b4, 0, none⟩)), (7, .pointer (some ⟨b26, 0, none⟩)), (9, .int .i64 (L.getD i.toNat 0)), (23, vl), (24, .int .i64 (L.length : Int)), (25, .int .i64 i)] (((Try.prog.info? 3).isSome = true ∧ IdxOk vl i) ∧ (CellOk (On w34) (hdB vl) (hdO vl + i.toNat * 1) (.int .i64 (L.getD i.toNat 0))) ∧ (True) ∧ True) hA H ⟨⟨by kernel_rfl, by exact idx_ok (H.arg hL) (by omega) (by omega)⟩, by exact cell_flat (i := i) (H.arg hL) (by omega) (by omega) 0 0, trivial, trivial⟩ fun a w39 hA H hG => ?_
        refine hK38 _ _ ?_
        refine go_seq fun K40 hK40 => ?_
        refine region_list ?_
        refine q_list 0 3 [(30, vr2)] [(2, .pointer (some ⟨b2, 0, none⟩)), (4, .pointer (some ⟨b4, 0, none⟩)), (7, .pointer (some ⟨b26, 0, none⟩)), (9, .int .i64 (L.getD i.toNat 0)), (23, vl), (24, .int .i64 (L.length : Int)), (25, .int .i64 i), (30, vr2), (31, .int .i64 (L.getD i.toNat 0))] ((0 < Try.prog.cellsOf 27) ∧ (CellOk (On w39) b26 (0 + 1) (vr2)) ∧ (True) ∧ True) hA H ⟨by decide +kernel, by exact box_cell H 2 rfl 1, trivial, trivial⟩ fun a w41 hA H hG => ?_
        refine list_at 3 ?_; refine q_lit 3 32 27 1 #[(0, .tmp 31)] 3 [(0, .int .i64 (L.getD i.toNat 0))] [.int .i64 (L.getD i.toNat 0)] [(2, .pointer (some ⟨b2, 0, none⟩)), (4, .pointer (some ⟨b4, 0, none⟩)), (7, .pointer (some ⟨b26, 0, none⟩)), (9, .int .i64 (L.getD i.toNat 0)), (23, vl), (24, .int .i64 (L.length : Int)), (25, .int .i64 i), (30, vr2)] hA H fun b42 a w43 H hA hG hge_b42 => ?_
        clear hge_b42
        refine list_at 4 ?_; refine q_push 4 33 (.tmp 30) (.tmp 32) 1 0 b42 1 1 vr2 l2 [(L.getD i.toNat 0)] [.int .i64 (L.getD i.toNat 0)] [(2, .pointer (some ⟨b2, 0, none⟩)), (4, .pointer (some ⟨b4, 0, none⟩)), (7, .pointer (some ⟨b26, 0, none⟩)), (9, .int .i64 (L.getD i.toNat 0)), (23, vl), (24, .int .i64 (L.length : Int)), (25, .int .i64 i)] hA H Try.E27 rfl rfl (by exact (RowRd.single (α := Int) rfl)) rfl (by simp only [List.length_cons, List.length_nil, List.length_append]; omega) (by decide) fun v44 a w45 H hA hG => ?_
        replace H : Fr _ _ _ [.row 3 v44 (l2 ++ [(L.getD i.toNat 0)]), .row 3 vr l, .box b26 29 [vr, vr2], .box b4 29 [(.slice none 0 0), (.slice none 0 0)], .box b2 24 [.int .i64 n, ve]] := H.drop 0
        refine q_list 5 1 [] [(2, .pointer (some ⟨b2, 0, none⟩)), (4, .pointer (some ⟨b4, 0, none⟩)), (7, .pointer (some ⟨b26, 0, none⟩)), (9, .int .i64 (L.getD i.toNat 0)), (23, vl), (24, .int .i64 (L.length : Int)), (25, .int .i64 i), (33, v44), (34, .pointer (some ⟨b26, 0 + 1, none⟩))] ((0 < Try.prog.cellsOf 27) ∧ True) hA H ⟨by decide +kernel, trivial⟩ fun a w46 hA H hG => ?_
        refine list_at 6 ?_; refine q_store 6 27 (.tmp 34) (.tmp 33) 2 b26 (0 + 1) 29 [vr, vr2] [v44] [vr, v44] v44 [(2, .pointer (some ⟨b2, 0, none⟩)), (4, .pointer (some ⟨b4, 0, none⟩)), (7, .pointer (some ⟨b26, 0, none⟩)), (9, .int .i64 (L.getD i.toNat 0)), (23, vl), (24, .int .i64 (L.length : Int)), (25, .int .i64 i)] hA H rfl (one_cells (rd_one (H.out 0 rfl))) (Nat.le_of_ble_eq_true (by kernel_rfl)) rfl (fun v hv => by simp only [List.mem_cons, List.not_mem_nil, or_false] at hv; rcases hv with rfl; exact (rd_one (H.out 0 rfl))) fun a w47 H hA hG => ?_
        replace H : Fr _ _ _ [.row 3 v44 (l2 ++ [(L.getD i.toNat 0)]), .row 3 vr l, .box b26 29 [vr, v44], .box b4 29 [(.slice none 0 0), (.slice none 0 0)], .box b2 24 [.int .i64 n, ve]] := H
        refine list_end ?_
        refine hK40 _ _ ?_
        have H0 := H
        have hM0 := H0.keeps vr.ownBlock (.inr ⟨_, List.mem_of_getElem? (i := 1) rfl, rfl⟩)
        refine region_mix (But w47 vr.ownBlock) [0, 1, 2, 3, 4, 5, 6, 7, 8, 9, 10, 11, 12, 13, 14, 15] 18 ?_
        replace H := H.drawn; have hD := But.drew w47 vr.ownBlock
        generalize ({ w47 with drawn := w47.drawn + 1 } : World) = w48 at H hD ⊢
        refine m_take (n := 4) [0, 1, 2, 3, 4, 5, 6, 7, 8, 9, 10, 11, 12, 13] #[true, true, true, true, true, true, true, true, true, true, true, true, true, true, false, false, false, false] [(36, vr), (38, ve), (42, .int .i64 ((E.getD (L.getD i.toNat 0).toNat (0, 0)).1)), (44, ve), (48, .int .i64 ((E.getD (L.getD i.toNat 0).toNat (0, 0)).2))] [(2, .pointer (some ⟨b2, 0, none⟩)), (4, .pointer (some ⟨b4, 0, none⟩)), (7, .pointer (some ⟨b26, 0, none⟩)), (23, vl), (24, .int .i64 (L.length : Int)), (25, .int .i64 i), (36, vr), (42, .int .i64 ((E.getD (L.getD i.toNat 0).toNat (0, 0)).1)), (48, .int .i64 ((E.getD (L.getD i.toNat 0).toNat (0, 0)).2))] ((0 < Try.prog.cellsOf 27) ∧ (CellOk (But w47 vr.ownBlock) b26 (0 + 0) (vr)) ∧ (0 < Try.prog.cellsOf 22) ∧ (CellOk (But w47 vr.ownBlock) b2 (0 + 1) (ve)) ∧ (True) ∧ ((Try.prog.info? 99).isSome = true ∧ IdxOk ve (L.getD i.toNat 0)) ∧ (0 < Try.prog.cellsOf 3) ∧ (CellOk (But w47 vr.ownBlock) (hdB ve) (hdO ve + (L.getD i.toNat 0).toNat * 2 + 0) (.int .i64 ((E.getD (L.getD i.toNat 0).toNat (0, 0)).1))) ∧ (0 < Try.prog.cellsOf 22) ∧ (CellOk (But w47 vr.ownBlock) b2 (0 + 1) (ve)) ∧ (True) ∧ ((Try.prog.info? 99).isSome = true ∧ IdxOk ve (L.getD i.toNat 0)) ∧ (0 < Try.prog.cellsOf 3) ∧ (CellOk (But w47 vr.ownBlock) (hdB ve) (hdO ve + (L.getD i.toNat 0).toNat * 2 + 1) (.int .i64 ((E.getD (L.getD i.toNat 0).toNat (0, 0)).2))) ∧ True) hA hD ⟨by decide +kernel, by exact box_cellC (box_atC H0 vr.ownBlock 2 rfl (H0.apart 2 1 (by decide) rfl rfl rfl)) 0, by decide +kernel, by exact box_cellC (box_atC H0 vr.ownBlock 4 rfl (H0.apart 4 1 (by decide) rfl rfl rfl)) 1, trivial, ⟨by kernel_rfl, by exact idx_ok (H0.argT hE) (by omega) (by omega)⟩, by decide +kernel, by exact cell_flatC hM0 (i := (L.getD i.toNat 0)) (H0.argT hE) (by omega) (by omega) (0, 0) 0, by decide +kernel, by exact box_cellC (box_atC H0 vr.ownBlock 4 rfl (H0.apart 4 1 (by decide) rfl rfl rfl)) 1, trivial, ⟨by kernel_rfl, by exact idx_ok (H0.argT hE) (by omega) (by omega)⟩, by decide +kernel, by exact cell_flatC hM0 (i := (L.getD i.toNat 0)) (H0.argT hE) (by omega) (by omega) (0, 0) 1, trivial⟩ fun a hA => ?_
        refine m_one 14 ?_; refine q_lit 14 49 27 2 #[(0, .tmp 42), (1, .tmp 48)] 3 [(0, .int .i64 ((E.getD (L.getD i.toNat 0).toNat (0, 0)).1)), (1, .int .i64 ((E.getD (L.getD i.toNat 0).toNat (0, 0)).2))] [.int .i64 ((E.getD (L.getD i.toNat 0).toNat (0, 0)).1), .int .i64 ((E.getD (L.getD i.toNat 0).toNat (0, 0)).2)] [(2, .pointer (some ⟨b2, 0, none⟩)), (4, .pointer (some ⟨b4, 0, none⟩)), (7, .pointer (some ⟨b26, 0, none⟩)), (23, vl), (24, .int .i64 (L.length : Int)), (25, .int .i64 i), (36, vr)] hA H fun b49 a w50 H hA hG hge_b49 => ?_
        replace hge_b49 := Nat.le_trans hD.1 hge_b49
        replace hD := hD.below hG
        refine ⟨fun _ => hD, ?_⟩
        refine m_one 15 ?_; refine q_push 15 50 (.tmp 36) (.tmp 49) 2 0 b49 2 2 vr l [(E.getD (L.getD i.toNat 0).toNat (0, 0)).1, (E.getD (L.getD i.toNat 0).toNat (0, 0)).2] [.int .i64 ((E.getD (L.getD i.toNat 0).toNat (0, 0)).1), .int .i64 ((E.getD (L.getD i.toNat 0).toNat (0, 0)).2)] [(2, .pointer (some ⟨b2, 0, none⟩)), (4, .pointer (some ⟨b4, 0, none⟩)), (7, .pointer (some ⟨b26, 0, none⟩)), (23, vl), (24, .int .i64 (L.length : Int)), (25, .int .i64 i)] hA H Try.E27 rfl rfl (by exact ((RowRd.single (α := Int) rfl).append (RowRd.single (α := Int) rfl))) rfl (by simp only [List.length_cons, List.length_nil, List.length_append]; omega) (by decide) fun v51 a w52 H hA hG => ?_
        replace H : Fr _ _ _ [.row 3 v44 (l2 ++ [(L.getD i.toNat 0)]), .row 3 v51 (l ++ [(E.getD (L.getD i.toNat 0).toNat (0, 0)).1, (E.getD (L.getD i.toNat 0).toNat (0, 0)).2]), .box b26 29 [vr, v44], .box b4 29 [(.slice none 0 0), (.slice none 0 0)], .box b2 24 [.int .i64 n, ve]] := H.drop 0
        replace hD := hD.grown hG (fun b hb => .inl hb.symm)
        refine ⟨fun _ => hD, ?_⟩
        refine m_one 16 ?_; refine q_one 16 [] [(2, .pointer (some ⟨b2, 0, none⟩)), (4, .pointer (some ⟨b4, 0, none⟩)), (7, .pointer (some ⟨b26, 0, none⟩)), (23, vl), (24, .int .i64 (L.length : Int)), (25, .int .i64 i), (50, v51), (51, .pointer (some ⟨b26, 0 + 0, none⟩))] ((0 < Try.prog.cellsOf 27) ∧ True) hA H ⟨by decide +kernel, trivial⟩ fun a w53 H hA hG => ?_
        refine ⟨fun h => absurd h (by decide), ?_⟩
        refine m_one 17 ?_; refine q_store 17 27 (.tmp 51) (.tmp 50) 2 b26 (0 + 0) 29 [vr, v44] [v51] [v51, v44] v51 [(2, .pointer (some ⟨b2, 0, none⟩)), (4, .pointer (some ⟨b4, 0, none⟩)), (7, .pointer (some ⟨b26, 0, none⟩)), (23, vl), (24, .int .i64 (L.length : Int)), (25, .int .i64 i)] hA H rfl (one_cells (rd_one (H.out 1 rfl))) (Nat.le_of_ble_eq_true (by kernel_rfl)) rfl (fun v hv => by simp only [List.mem_cons, List.not_mem_nil, or_false] at hv; rcases hv with rfl; exact (rd_one (H.out 1 rfl))) fun a w54 H hA hG => ?_
        replace H : Fr _ _ _ [.row 3 v44 (l2 ++ [(L.getD i.toNat 0)]), .row 3 v51 (l ++ [(E.getD (L.getD i.toNat 0).toNat (0, 0)).1, (E.getD (L.getD i.toNat 0).toNat (0, 0)).2]), .box b26 29 [v51, v44], .box b4 29 [(.slice none 0 0), (.slice none 0 0)], .box b2 24 [.int .i64 n, ve]] := H
        refine ⟨fun h => absurd h (by decide), ?_⟩
        refine m_end ?_
        refine hK37 _ _ ?_
        refine q_reg [] [(2, .pointer (some ⟨b2, 0, none⟩)), (4, .pointer (some ⟨b4, 0, none⟩)), (7, .pointer (some ⟨b26, 0, none⟩)), (23, vl), (24, .int .i64 (L.length : Int)), (25, .int .i64 (i + 1))] ((InR .i64 (i + 1)) ∧ (True) ∧ True) hA H ⟨⟨by omega, by omega⟩, trivial, trivial⟩ fun a w55 hA H hG => ?_
        refine ⟨(i + 1, v51, v44, l ++ [(E.getD (L.getD i.toNat 0).toNat (0, 0)).1, (E.getD (L.getD i.toNat 0).toNat (0, 0)).2], l2 ++ [(L.getD i.toNat 0)]), ⟨env_sub _ hA, ⟨_, H⟩, ?_⟩, ?_⟩
        · (try dsimp only); exact ⟨by omega, by omega, by (try simp only [List.length_append, List.length_cons, List.length_nil]); omega, by (try simp only [List.length_append, List.length_cons, List.length_nil]); omega, by rw [endsL_round h0 (by omega)] at hi; (try simp only [List.append_assoc] at hi ⊢); exact hi, by rw [drop_round h0 (by omega)] at hi2; simpa using hi2⟩
        · (try dsimp only); omega
      · have hhb36 := of_decide_eq_false hb36
        refine go_exit 0 ?_
        refine hK28 _ _ ?_
        refine go_seq fun K56 hK56 => ?_
        rw [endsL_end (by omega), List.append_nil] at hi; rw [drop_end (by omega), List.append_nil] at hi2
        have hl1 : l.length ≤ 10000 := by omega
        refine region_list ?_
        refine q_list 0 2 [(54, vr)] [(4, .pointer (some ⟨b4, 0, none⟩)), (7, .pointer (some ⟨b26, 0, none⟩)), (54, vr)] ((0 < Try.prog.cellsOf 27) ∧ (CellOk (On w34) b26 (0 + 0) (vr)) ∧ True) hA H ⟨by decide +kernel, by exact box_cell H 2 rfl 0, trivial⟩ fun a w57 hA H hG => ?_
        refine list_at 2 ?_; refine q_any 2 55 74 #[.tmp 54] #[27] [vr] _ [(4, .pointer (some ⟨b4, 0, none⟩)), (7, .pointer (some ⟨b26, 0, none⟩))] hA (by exact sort_row H 1 rfl (by first | omega | (simp only [List.length_mergeSort]; omega) | (simp only [List.length_cons]; omega))) fun v58 a w59 hR60 hA => ?_
        obtain ⟨H, hG⟩ := hR60
        replace H : Fr _ _ _ [.row 3 vr2 l2, .row 3 vr (sortL l), .box b26 29 [vr, vr2], .box b4 29 [(.slice none 0 0), (.slice none 0 0)], .box b2 24 [.int .i64 n, ve]] := H
        refine list_end ?_
        refine hK56 _ _ ?_
        refine go_seq fun K61 hK61 => ?_
        refine region_list ?_
        refine q_list 0 2 [(57, vr)] [(4, .pointer (some ⟨b4, 0, none⟩)), (7, .pointer (some ⟨b26, 0, none⟩)), (57, vr)] ((0 < Try.prog.cellsOf 27) ∧ (CellOk (On w59) b26 (0 + 0) (vr)) ∧ True) hA H ⟨by decide +kernel, by exact box_cell H 2 rfl 0, trivial⟩ fun a w62 hA H hG => ?_
        refine list_at 2 ?_; refine q_any 2 58 75 #[.tmp 57] #[27] [vr] _ [(4, .pointer (some ⟨b4, 0, none⟩)), (7, .pointer (some ⟨b26, 0, none⟩))] hA (by exact compact_row H 1 rfl (by first | omega | (simp only [List.length_mergeSort]; omega) | (simp only [List.length_cons]; omega))) fun v63 a w64 hR65 hA => ?_
        obtain ⟨H, hG⟩ := hR65
        replace H : Fr _ _ _ [.row 3 vr2 l2, .row 3 v63 (Lib.compact (sortL l)), .box b26 29 [vr, vr2], .box b4 29 [(.slice none 0 0), (.slice none 0 0)], .box b2 24 [.int .i64 n, ve]] := H
        refine q_list 3 1 [] [(4, .pointer (some ⟨b4, 0, none⟩)), (7, .pointer (some ⟨b26, 0, none⟩)), (58, v63), (59, .pointer (some ⟨b26, 0 + 0, none⟩))] ((0 < Try.prog.cellsOf 27) ∧ True) hA H ⟨by decide +kernel, trivial⟩ fun a w66 hA H hG => ?_
        refine list_at 4 ?_; refine q_store 4 27 (.tmp 59) (.tmp 58) 2 b26 (0 + 0) 29 [vr, vr2] [v63] [v63, vr2] v63 [(4, .pointer (some ⟨b4, 0, none⟩)), (7, .pointer (some ⟨b26, 0, none⟩))] hA H rfl (one_cells (rd_one (H.out 1 rfl))) (Nat.le_of_ble_eq_true (by kernel_rfl)) rfl (fun v hv => by simp only [List.mem_cons, List.not_mem_nil, or_false] at hv; rcases hv with rfl; exact (rd_one (H.out 1 rfl))) fun a w67 H hA hG => ?_
        replace H : Fr _ _ _ [.row 3 vr2 l2, .row 3 v63 (Lib.compact (sortL l)), .box b26 29 [v63, vr2], .box b4 29 [(.slice none 0 0), (.slice none 0 0)], .box b2 24 [.int .i64 n, ve]] := H
        refine list_end ?_
        refine hK61 _ _ ?_
        refine go_seq fun K68 hK68 => ?_
        refine region_list ?_
        refine q_list 0 1 [(60, .agg #[v63, vr2])] [(4, .pointer (some ⟨b4, 0, none⟩)), (60, .agg #[v63, vr2])] (((Try.prog.info? 29).isSome = true ∧ RowOk (On w67) b26 (0) (Try.prog.cellsOf 29) #[v63, vr2]) ∧ True) hA H ⟨⟨by kernel_rfl, by exact box_row H 2 rfl 0 2⟩, trivial⟩ fun a w69 hA H hG => ?_
        refine list_at 1 ?_; refine q_store 1 29 (.tmp 4) (.tmp 60) 3 b4 (0) 29 [(.slice none 0 0), (.slice none 0 0)] [v63, vr2] [v63, vr2] (.agg #[v63, vr2]) [(4, .pointer (some ⟨b4, 0, none⟩))] hA H rfl rfl (Nat.le_of_ble_eq_true (by kernel_rfl)) rfl (fun v hv => by simp only [List.mem_cons, List.not_mem_nil, or_false] at hv; rcases hv with rfl | rfl; exact (rd_one (H.out 1 rfl)); exact (rd_one (H.out 0 rfl))) fun a w70 H hA hG => ?_
        replace H : Fr _ _ _ [.row 3 vr2 l2, .row 3 v63 (Lib.compact (sortL l)), .box b26 29 [v63, vr2], .box b4 29 [v63, vr2], .box b2 24 [.int .i64 n, ve]] := H
        refine q_list 2 1 [] [(4, .pointer (some ⟨b4, 0, none⟩)), (5, .int .i64 0)] ((True) ∧ True) hA H ⟨trivial, trivial⟩ fun a w71 hA H hG => ?_
        refine list_end ?_
        refine hK68 _ _ ?_
        refine go_ret_ ?_
        refine ret_cell2 4 5 29 3 b4 29 [v63, vr2] #[v63, vr2] (.int .i64 0) hA H rfl ?_ (ht := ⟨_, Try.underlying29⟩)
        have e1 : spanE n E L = ((Lib.compact (sortL (endsL E L)), L), 0) := by unfold spanE; rw [if_neg (by omega), if_neg (fun q => q hr1)]
        have hV2 := (H.give 1 rfl); have hE2 := (H.give 0 rfl); rw [hi] at hV2; rw [hi2] at hE2
        rw [e1]; exact ⟨_, rfl, ⟨_, rfl, rd_two hV2 hE2⟩, H.below⟩

set_option maxRecDepth 100000 in
set_option maxHeartbeats 1000000 in
theorem rspan_any (n : Int) (ve : Value) (E : List (Int × Int)) (vl : Value) (L : List Int) (o : Orig) (hn : -9223372036854775808 ≤ n ∧ n ≤ 9223372036854775807) (hE : Rd (· < o.w.heap.size) o.w ve E) (hL : Rd (· < o.w.heap.size) o.w vl L) (hx : risesP L (E.length : Int)) (hs : (E.length : Int) ≤ 100000) (hs2 : n ≤ 100000) :
  Calls Try.prog 30 [.agg #[.int .i64 n, ve], vl].toArray o.w (Giv o (fun S v w' => Rd S w' v ((touchL E L n, L)))) := by
  have hl9 := rises_len hx (by omega)
  refine enter Try.f30 56 Try.func30 fun a hA => ?_
  replace hA := env_sub [(0, .agg #[.int .i64 n, ve]), (1, vl)] hA
  have H := Fr.start o
  refine go_seq fun K1 hK1 => ?_
  refine region_list ?_
  refine list_at 0 ?_; refine q_box 0 2 24 (.tmp 0) (.agg #[.int .i64 n, ve]) [.int .i64 n, ve] [(1, vl)] hA H fun b2 a w3 H hA hG hge_b2 => ?_
  clear hge_b2
  refine list_at 1 ?_; refine q_alloc 1 4 29 [(.slice none 0 0), (.slice none 0 0)] [(1, vl), (2, .pointer (some ⟨b2, 0, none⟩))] hA H fun b4 a w5 H hA hG hge_b4 => ?_
  clear hge_b4
  refine list_end ?_
  refine hK1 _ _ ?_
  refine go_seq fun K6 hK6 => ?_
  refine region_list ?_
  refine list_at 0 ?_; refine q_alloc 0 5 29 [(.slice none 0 0), (.slice none 0 0)] [(1, vl), (2, .pointer (some ⟨b2, 0, none⟩)), (4, .pointer (some ⟨b4, 0, none⟩))] hA H fun b7 a w8 H hA hG hge_b7 => ?_
  clear hge_b7
  replace H := H.newRow (α := Int) 3
  replace H := H.newRow (α := Int) 3
  refine list_end ?_
  refine hK6 _ _ ?_
  refine go_seq fun K9 hK9 => ?_
  refine region_list ?_
  refine q_list 0 3 [(9, (.slice none 0 0))] [(1, vl), (2, .pointer (some ⟨b2, 0, none⟩)), (4, .pointer (some ⟨b4, 0, none⟩)), (5, .pointer (some ⟨b7, 0, none⟩)), (9, (.slice none 0 0)), (10, vl)] ((0 < Try.prog.cellsOf 27) ∧ (CellOk (On w8) b7 (0 + 1) ((.slice none 0 0))) ∧ (True) ∧ True) hA H ⟨by decide +kernel, by exact box_cell H 2 rfl 1, trivial, trivial⟩ fun a w10 hA H hG => ?_
  refine list_at 3 ?_; refine q_pushS 3 11 (.tmp 9) (.tmp 10) 0 (.slice none 0 0) vl ([] : List Int) L [(1, vl), (2, .pointer (some ⟨b2, 0, none⟩)), (4, .pointer (some ⟨b4, 0, none⟩)), (5, .pointer (some ⟨b7, 0, none⟩))] hA H Try.E27 rfl (H.arg hL) (by simp only [List.length_cons, List.length_nil, List.length_append]; omega) (by decide) (fun _ _ h => h) fun v11 a w12 H hA hG => ?_
  replace H : Fr _ _ _ [.row 3 v11 (([] : List Int) ++ L), .row 3 (.slice none 0 0) ([] : List Int), .box b7 29 [(.slice none 0 0), (.slice none 0 0)], .box b4 29 [(.slice none 0 0), (.slice none 0 0)], .box b2 24 [.int .i64 n, ve]] := H
  refine q_list 4 1 [] [(1, vl), (2, .pointer (some ⟨b2, 0, none⟩)), (4, .pointer (some ⟨b4, 0, none⟩)), (5, .pointer (some ⟨b7, 0, none⟩)), (11, v11), (12, .pointer (some ⟨b7, 0 + 1, none⟩))] ((0 < Try.prog.cellsOf 27) ∧ True) hA H ⟨by decide +kernel, trivial⟩ fun a w13 hA H hG => ?_
  refine list_at 5 ?_; refine q_store 5 27 (.tmp 12) (.tmp 11) 2 b7 (0 + 1) 29 [(.slice none 0 0), (.slice none 0 0)] [v11] [(.slice none 0 0), v11] v11 [(1, vl), (2, .pointer (some ⟨b2, 0, none⟩)), (4, .pointer (some ⟨b4, 0, none⟩)), (5, .pointer (some ⟨b7, 0, none⟩))] hA H rfl (one_cells (rd_one (H.out 0 rfl))) (Nat.le_of_ble_eq_true (by kernel_rfl)) rfl (fun v hv => by simp only [List.mem_cons, List.not_mem_nil, or_false] at hv; rcases hv with rfl; exact (rd_one (H.out 0 rfl))) fun a w14 H hA hG => ?_
  replace H : Fr _ _ _ [.row 3 v11 (([] : List Int) ++ L), .row 3 (.slice none 0 0) ([] : List Int), .box b7 29 [(.slice none 0 0), v11], .box b4 29 [(.slice none 0 0), (.slice none 0 0)], .box b2 24 [.int .i64 n, ve]] := H
  refine list_end ?_
  refine hK9 _ _ ?_
  refine go_seq fun K15 hK15 => ?_
  refine go_seq fun K16 hK16 => ?_
  refine q_reg [] [(1, vl), (2, .pointer (some ⟨b2, 0, none⟩)), (4, .pointer (some ⟨b4, 0, none⟩)), (5, .pointer (some ⟨b7, 0, none⟩)), (6, .int .i64 0)] ((True) ∧ True) hA H ⟨trivial, trivial⟩ fun a w17 hA H hG => ?_
  refine hK16 _ _ ?_
  refine go_block 0 ?_
  refine go_loop_ (Int × Value × List Int) (fun x_ a W => (fun (i : Int) (vr : Value) (l : List Int) => EnvOk 56 a (keepEnv [(1, vl), (2, .pointer (some ⟨b2, 0, none⟩)), (4, .pointer (some ⟨b4, 0, none⟩)), (5, .pointer (some ⟨b7, 0, none⟩)), (6, .int .i64 i)]) ∧ (∃ S, Fr o W S [.row 3 v11 (([] : List Int) ++ L), .row 3 vr l, .box b7 29 [vr, v11], .box b4 29 [(.slice none 0 0), (.slice none 0 0)], .box b2 24 [.int .i64 n, ve]]) ∧ 0 ≤ i ∧ (i ≤ n ∨ i = 0) ∧ (l.length : Int) ≤ i ∧ l = touchL E L i) x_.1 x_.2.1 x_.2.2) (fun x_ => (fun (i : Int) (vr : Value) (l : List Int) => (n - i).toNat) x_.1 x_.2.1 x_.2.2) (0, .slice none 0 0, []) ?_ (fun x_ a w19 hI => ?_)
  · (try dsimp only); exact ⟨env_sub _ hA, ⟨_, H⟩, by omega, by omega, by simp, rfl⟩
  obtain ⟨i, vr, l⟩ := x_
  obtain ⟨hA, ⟨S, H⟩, h0, h0a, h1, hi⟩ := hI
  try dsimp only at h0 h0a h1 hi
  refine go_seq fun K20 hK20 => ?_
  refine go_seq fun K21 hK21 => ?_
  refine q_reg [(15, .int .i64 n)] [(1, vl), (2, .pointer (some ⟨b2, 0, none⟩)), (4, .pointer (some ⟨b4, 0, none⟩)), (5, .pointer (some ⟨b7, 0, none⟩)), (6, .int .i64 i), (16, .bool (decide (i < n)))] ((True) ∧ (0 < Try.prog.cellsOf 3) ∧ (CellOk (On w19) b2 (0 + 0) (.int .i64 n)) ∧ (True) ∧ True) hA H ⟨trivial, by decide +kernel, by exact box_cell H 4 rfl 0, trivial, trivial⟩ fun a w22 hA H hG => ?_
  refine hK21 _ _ ?_
  refine go_cond hA (.tmp 16) (decide (i < n)) (fun hb23 => ?_) (fun hb23 => ?_)
  · have hhb23 := of_decide_eq_true hb23
    refine go_skip ?_
    refine hK20 _ _ ?_
    refine go_seq fun K24 hK24 => ?_
    refine go_block 1 ?_
    refine go_seq fun K25 hK25 => ?_
    refine q_reg [] [(1, vl), (2, .pointer (some ⟨b2, 0, none⟩)), (4, .pointer (some ⟨b4, 0, none⟩)), (5, .pointer (some ⟨b7, 0, none⟩)), (6, .int .i64 i), (7, .int .i64 0)] ((True) ∧ True) hA H ⟨trivial, trivial⟩ fun a w26 hA H hG => ?_
    refine hK25 _ _ ?_
    refine go_block 2 ?_
    refine go_loop_ (Int) (fun x_ a W => (fun (k : Int) => EnvOk 56 a (keepEnv [(1, vl), (2, .pointer (some ⟨b2, 0, none⟩)), (4, .pointer (some ⟨b4, 0, none⟩)), (5, .pointer (some ⟨b7, 0, none⟩)), (6, .int .i64 i), (7, .int .i64 k)]) ∧ (∃ S, Fr o W S [.row 3 v11 (([] : List Int) ++ L), .row 3 vr l, .box b7 29 [vr, v11], .box b4 29 [(.slice none 0 0), (.slice none 0 0)], .box b2 24 [.int .i64 n, ve]]) ∧ 0 ≤ k ∧ ∀ j : Nat, (j : Int) < k → ¬ touchP E (L.getD j 0) i) x_) (fun x_ => (fun (k : Int) => ((L.length : Int) - k).toNat) x_) (0) ?_ (fun k a w28 hI => ?_)
    · (try dsimp only); exact ⟨env_sub _ hA, ⟨_, H⟩, by omega, fun j hj => by omega⟩
    obtain ⟨hA, ⟨S, H⟩, k0, hk⟩ := hI
    try dsimp only at k0 hk
    refine go_seq fun K29 hK29 => ?_
    refine go_seq fun K30 hK30 => ?_
    refine q_reg [(21, .int .i64 (L.length : Int))] [(1, vl), (2, .pointer (some ⟨b2, 0, none⟩)), (4, .pointer (some ⟨b4, 0, none⟩)), (5, .pointer (some ⟨b7, 0, none⟩)), (6, .int .i64 i), (7, .int .i64 k), (22, .bool (decide (k < (L.length : Int))))] ((True) ∧ (True) ∧ (LenOk vl (L.length : Int)) ∧ (True) ∧ True) hA H ⟨trivial, trivial, by exact len_ok (H.arg hL), trivial, trivial⟩ fun a w31 hA H hG => ?_
    refine hK30 _ _ ?_
    refine go_cond hA (.tmp 22) (decide (k < (L.length : Int))) (fun hb32 => ?_) (fun hb32 => ?_)
    · have hhb32 := of_decide_eq_true hb32
      refine go_skip ?_
      refine hK29 _ _ ?_
      refine go_seq fun K33 hK33 => ?_
      refine go_block 3 ?_
      refine go_seq fun K34 hK34 => ?_
      have hx9 := hx k.toNat (by omega)
      refine q_draw [(26, ve), (30, .int .i64 (L.getD k.toNat 0)), (33, .int .i64 ((E.getD (L.getD k.toNat 0).toNat (0, 0)).1)), (38, ve), (42, .int .i64 (L.getD k.toNat 0)), (45, .int .i64 ((E.getD (L.getD k.toNat 0).toNat (0, 0)).2))] [(1, vl), (2, .pointer (some ⟨b2, 0, none⟩)), (4, .pointer (some ⟨b4, 0, none⟩)), (5, .pointer (some ⟨b7, 0, none⟩)), (6, .int .i64 i), (7, .int .i64 k), (48, .bool ((decide ((E.getD (L.getD k.toNat 0).toNat (0, 0)).1 = i)) || (decide ((E.getD (L.getD k.toNat 0).toNat (0, 0)).2 = i))))] ((0 < Try.prog.cellsOf 22) ∧ (CellOk (On w31) b2 (0 + 1) (ve)) ∧ (True) ∧ (True) ∧ ((Try.prog.info? 3).isSome = true ∧ IdxOk vl k) ∧ (CellOk (On w31) (hdB vl) (hdO vl + k.toNat * 1) (.int .i64 (L.getD k.toNat 0))) ∧ ((Try.prog.info? 99).isSome = true ∧ IdxOk ve (L.getD k.toNat 0)) ∧ (0 < Try.prog.cellsOf 3) ∧ (CellOk (On w31) (hdB ve) (hdO ve + (L.getD k.toNat 0).toNat * 2 + 0) (.int .i64 ((E.getD (L.getD k.toNat 0).toNat (0, 0)).1))) ∧ (True) ∧ (True) ∧ (True) ∧ ((decide ((E.getD (L.getD k.toNat 0).toNat (0, 0)).1 = i)) = false → 0 < Try.prog.cellsOf 22) ∧ ((decide ((E.getD (L.getD k.toNat 0).toNat (0, 0)).1 = i)) = false → CellOk (On w31) b2 (0 + 1) (ve)) ∧ ((decide ((E.getD (L.getD k.toNat 0).toNat (0, 0)).1 = i)) = false → True) ∧ ((decide ((E.getD (L.getD k.toNat 0).toNat (0, 0)).1 = i)) = false → True) ∧ ((decide ((E.getD (L.getD k.toNat 0).toNat (0, 0)).1 = i)) = false → (Try.prog.info? 3).isSome = true ∧ IdxOk vl k) ∧ ((decide ((E.getD (L.getD k.toNat 0).toNat (0, 0)).1 = i)) = false → CellOk (On w31) (hdB vl) (hdO vl + k.toNat * 1) (.int .i64 (L.getD k.toNat 0))) ∧ ((decide ((E.getD (L.getD k.toNat 0).toNat (0, 0)).1 = i)) = false → (Try.prog.info? 99).isSome = true ∧ IdxOk ve (L.getD k.toNat 0)) ∧ ((decide ((E.getD (L.getD k.toNat 0).toNat (0, 0)).1 = i)) = false → 0 < Try.prog.cellsOf 3) ∧ ((decide ((E.getD (L.getD k.toNat 0).toNat (0, 0)).1 = i)) = false → CellOk (On w31) (hdB ve) (hdO ve + (L.getD k.toNat 0).toNat * 2 + 1) (.int .i64 ((E.getD (L.getD k.toNat 0).toNat (0, 0)).2))) ∧ ((decide ((E.getD (L.getD k.toNat 0).toNat (0, 0)).1 = i)) = false → True) ∧ ((decide ((E.getD (L.getD k.toNat 0).toNat (0, 0)).1 = i)) = false → True) ∧ (True) ∧ True) hA H ⟨by decide +kernel, by exact box_cell H 4 rfl 1, trivial, trivial, ⟨by kernel_rfl, by exact idx_ok (H.arg hL) (by omega) (by omega)⟩, by exact cell_flat (i := k) (H.arg hL) (by omega) (by omega) 0 0, ⟨by kernel_rfl, by exact idx_ok (H.arg hE) (by omega) (by omega)⟩, by decide +kernel, by exact cell_flat (i := (L.getD k.toNat 0)) (H.arg hE) (by omega) (by omega) (0, 0) 0, trivial, trivial, trivial, fun _ => by decide +kernel, fun _ => by exact box_cell H 4 rfl 1, fun _ => trivial, fun _ => trivial, fun hg0 => by replace hg0 := of_decide_eq_false hg0; exact ⟨by kernel_rfl, by exact idx_ok (H.arg hL) (by omega) (by omega)⟩, fun hg0 => by replace hg0 := of_decide_eq_false hg0; exact by exact cell_flat (i := k) (H.arg hL) (by omega) (by omega) 0 0, fun hg0 => by replace hg0 := of_decide_eq_false hg0; exact ⟨by kernel_rfl, by exact idx_ok (H.arg hE) (by omega) (by omega)⟩, fun _ => by decide +kernel, fun hg0 => by replace hg0 := of_decide_eq_false hg0; exact by exact cell_flat (i := (L.getD k.toNat 0)) (H.arg hE) (by omega) (by omega) (0, 0) 1, fun _ => trivial, fun _ => trivial, trivial, trivial⟩ fun a w35 hA H hG => ?_
      refine hK34 _ _ ?_
      refine go_cond hA (.tmp 48) ((decide ((E.getD (L.getD k.toNat 0).toNat (0, 0)).1 = i)) || (decide ((E.getD (L.getD k.toNat 0).toNat (0, 0)).2 = i))) (fun hb36 => ?_) (fun hb36 => ?_)
      · have hhb36 := (oT hb36).imp (fun h => of_decide_eq_true h) (fun h => of_decide_eq_true h)
        refine go_seq fun K37 hK37 => ?_
        refine region_list ?_
        refine q_list 0 3 [(50, vr)] [(1, vl), (2, .pointer (some ⟨b2, 0, none⟩)), (4, .pointer (some ⟨b4, 0, none⟩)), (5, .pointer (some ⟨b7, 0, none⟩)), (6, .int .i64 i), (50, vr), (51, .int .i64 i)] ((0 < Try.prog.cellsOf 27) ∧ (CellOk (On w35) b7 (0 + 0) (vr)) ∧ (True) ∧ True) hA H ⟨by decide +kernel, by exact box_cell H 2 rfl 0, trivial, trivial⟩ fun a w38 hA H hG => ?_
        refine list_at 3 ?_; refine q_lit 3 52 27 1 #[(0, .tmp 51)] 3 [(0, .int .i64 i)] [.int .i64 i] [(1, vl), (2, .pointer (some ⟨b2, 0, none⟩)), (4, .pointer (some ⟨b4, 0, none⟩)), (5, .pointer (some ⟨b7, 0, none⟩)), (6, .int .i64 i), (50, vr)] hA H fun b39 a w40 H hA hG hge_b39 => ?_
        clear hge_b39
        refine list_at 4 ?_; refine q_push 4 53 (.tmp 50) (.tmp 52) 2 0 b39 1 1 vr l [i] [.int .i64 i] [(1, vl), (2, .pointer (some ⟨b2, 0, none⟩)), (4, .pointer (some ⟨b4, 0, none⟩)), (5, .pointer (some ⟨b7, 0, none⟩)), (6, .int .i64 i)] hA H Try.E27 rfl rfl (by exact (RowRd.single (α := Int) rfl)) rfl (by simp only [List.length_cons, List.length_nil, List.length_append]; omega) (by decide) fun v41 a w42 H hA hG => ?_
        replace H : Fr _ _ _ [.row 3 v11 (([] : List Int) ++ L), .row 3 v41 (l ++ [i]), .box b7 29 [vr, v11], .box b4 29 [(.slice none 0 0), (.slice none 0 0)], .box b2 24 [.int .i64 n, ve]] := H.drop 0
        refine q_list 5 1 [] [(1, vl), (2, .pointer (some ⟨b2, 0, none⟩)), (4, .pointer (some ⟨b4, 0, none⟩)), (5, .pointer (some ⟨b7, 0, none⟩)), (6, .int .i64 i), (53, v41), (54, .pointer (some ⟨b7, 0 + 0, none⟩))] ((0 < Try.prog.cellsOf 27) ∧ True) hA H ⟨by decide +kernel, trivial⟩ fun a w43 hA H hG => ?_
        refine list_at 6 ?_; refine q_store 6 27 (.tmp 54) (.tmp 53) 2 b7 (0 + 0) 29 [vr, v11] [v41] [v41, v11] v41 [(1, vl), (2, .pointer (some ⟨b2, 0, none⟩)), (4, .pointer (some ⟨b4, 0, none⟩)), (5, .pointer (some ⟨b7, 0, none⟩)), (6, .int .i64 i)] hA H rfl (one_cells (rd_one (H.out 1 rfl))) (Nat.le_of_ble_eq_true (by kernel_rfl)) rfl (fun v hv => by simp only [List.mem_cons, List.not_mem_nil, or_false] at hv; rcases hv with rfl; exact (rd_one (H.out 1 rfl))) fun a w44 H hA hG => ?_
        replace H : Fr _ _ _ [.row 3 v11 (([] : List Int) ++ L), .row 3 v41 (l ++ [i]), .box b7 29 [v41, v11], .box b4 29 [(.slice none 0 0), (.slice none 0 0)], .box b2 24 [.int .i64 n, ve]] := H
        refine list_end ?_
        refine hK37 _ _ ?_
        refine go_exit 2 ?_
        refine hK24 _ _ ?_
        refine q_reg [] [(1, vl), (2, .pointer (some ⟨b2, 0, none⟩)), (4, .pointer (some ⟨b4, 0, none⟩)), (5, .pointer (some ⟨b7, 0, none⟩)), (6, .int .i64 (i + 1))] ((True) ∧ (InR .i64 (i + 1)) ∧ (True) ∧ True) hA H ⟨trivial, ⟨by omega, by omega⟩, trivial, trivial⟩ fun a w45 hA H hG => ?_
        refine ⟨(i + 1, v41, l ++ [i]), ⟨env_sub _ hA, ⟨_, H⟩, ?_⟩, ?_⟩
        · (try dsimp only); exact ⟨by omega, by omega, by (try simp only [List.length_append, List.length_cons, List.length_nil]); omega, by rw [hi, touchL_T h0 (decide_eq_true ⟨k.toNat, by omega, hhb36⟩)]⟩
        · (try dsimp only); omega
      · have hhb36 := (⟨of_decide_eq_false ((oF hb36).1), of_decide_eq_false ((oF hb36).2)⟩ : _ ∧ _)
        refine go_skip ?_
        refine hK33 _ _ ?_
        refine q_reg [] [(1, vl), (2, .pointer (some ⟨b2, 0, none⟩)), (4, .pointer (some ⟨b4, 0, none⟩)), (5, .pointer (some ⟨b7, 0, none⟩)), (6, .int .i64 i), (7, .int .i64 (k + 1))] ((True) ∧ (InR .i64 (k + 1)) ∧ (True) ∧ True) hA H ⟨trivial, ⟨by omega, by omega⟩, trivial, trivial⟩ fun a w46 hA H hG => ?_
        refine ⟨(k + 1), ⟨env_sub _ hA, ⟨_, H⟩, ?_⟩, ?_⟩
        · (try dsimp only); exact ⟨by omega, fun j hj => if e : (j : Int) = k then (by rw [show j = k.toNat by omega]; unfold touchP; have := hhb36; omega) else hk j (by omega)⟩
        · (try dsimp only); omega
    · have hhb32 := of_decide_eq_false hb32
      refine go_exit 2 ?_
      refine hK24 _ _ ?_
      refine q_reg [] [(1, vl), (2, .pointer (some ⟨b2, 0, none⟩)), (4, .pointer (some ⟨b4, 0, none⟩)), (5, .pointer (some ⟨b7, 0, none⟩)), (6, .int .i64 (i + 1))] ((True) ∧ (InR .i64 (i + 1)) ∧ (True) ∧ True) hA H ⟨trivial, ⟨by omega, by omega⟩, trivial, trivial⟩ fun a w47 hA H hG => ?_
      refine ⟨(i + 1, vr, l), ⟨env_sub _ hA, ⟨_, H⟩, ?_⟩, ?_⟩
      · (try dsimp only); exact ⟨by omega, by omega, by (try simp only [List.length_append, List.length_cons, List.length_nil]); omega, by rw [hi, touchL_F h0 (decide_eq_false (fun ⟨j, hj, q⟩ => hk j (by omega) q))]⟩
      · (try dsimp only); omega
  · have hhb23 := of_decide_eq_false hb23
    refine go_exit 0 ?_
    refine hK15 _ _ ?_
    refine go_seq fun K48 hK48 => ?_
    refine region_list ?_
    refine q_list 0 1 [(55, .agg #[vr, v11])] [(4, .pointer (some ⟨b4, 0, none⟩)), (55, .agg #[vr, v11])] (((Try.prog.info? 29).isSome = true ∧ RowOk (On w22) b7 (0) (Try.prog.cellsOf 29) #[vr, v11]) ∧ True) hA H ⟨⟨by kernel_rfl, by exact box_row H 2 rfl 0 2⟩, trivial⟩ fun a w49 hA H hG => ?_
    refine list_at 1 ?_; refine q_store 1 29 (.tmp 4) (.tmp 55) 3 b4 (0) 29 [(.slice none 0 0), (.slice none 0 0)] [vr, v11] [vr, v11] (.agg #[vr, v11]) [(4, .pointer (some ⟨b4, 0, none⟩))] hA H rfl rfl (Nat.le_of_ble_eq_true (by kernel_rfl)) rfl (fun v hv => by simp only [List.mem_cons, List.not_mem_nil, or_false] at hv; rcases hv with rfl | rfl; exact (rd_one (H.out 1 rfl)); exact (rd_one (H.out 0 rfl))) fun a w50 H hA hG => ?_
    replace H : Fr _ _ _ [.row 3 v11 (([] : List Int) ++ L), .row 3 vr l, .box b7 29 [vr, v11], .box b4 29 [vr, v11], .box b2 24 [.int .i64 n, ve]] := H
    refine list_end ?_
    refine hK48 _ _ ?_
    refine go_ret_ ?_
    refine ret_cell 4 29 3 b4 29 [vr, v11] #[vr, v11] hA H rfl ?_ (ht := ⟨_, Try.underlying29⟩)
    have e1 : touchL E L i = touchL E L n := by unfold touchL; rw [upto_eq (by omega) h0a]
    rw [e1] at hi; subst hi; exact ⟨_, rfl, rd_two (H.give 1 rfl) (H.give 0 rfl), H.below⟩

end Go.Proofs.Ytahonnlgkmimlaa
