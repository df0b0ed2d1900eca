/-
 Texts joined by program: EngS, SetsA, SetsC, TabG, WalkS1, WalkS2, TabB, BlockS, BlockL, WalkS4, WalkS3, WalkS5, PairA, WalkP1, BlockM, PairB, EngT.
-/
import Derived.Maps.RangeWalk
import Derived.Test.YtahonnlgkmimlaaProg
import Derived.Tactics
import Derived.Tactics2
import Derived.Defers
import Derived.Recover
import Derived.Laws.Pointers
import Derived.Test.YtahonnlgkmimlaaJPairCuts2
set_option linter.unusedSimpArgs false
set_option linter.unusedVariables false
set_option maxRecDepth 100000
set_option maxHeartbeats 8000000
namespace Go.Proofs.Ytahonnlgkmimlaa
open Go.RowKit
abbrev valsN (m : List (Int × Int)) : List (Int × Value) := (m.map fun q => (q.1, Value.int .i64 q.2, q.2)).map fun q => (q.1, q.2.1)
def RangeOf (P : Program) (k : TypeId) (b r : Nat) (m : List (Int × Int)) (left : Lit → Bool) (cnt : Nat) (X Y : Obj) : Prop :=
 ∀ w : World, w.heap[b]? = some X → w.heap[r]? = some Y → w.ranges P k Rv b r m.length (mapD (valsN m)) left cnt
theorem rangeOf_mk {P : Program} {k : TypeId} {b r : Nat} {m : List (Int × Int)} {left : Lit → Bool} {cnt : Nat} {w : World} (h : w.ranges P k Rv b r m.length (mapD (valsN m)) left cnt) :
   ∃ X Y, w.heap[b]? = some X ∧ w.heap[r]? = some Y ∧ RangeOf P k b r m left cnt X Y := by
 obtain ⟨es, clock, since, seen, c0, hb, F, hs, hD, hr, rest⟩ := h
 refine ⟨_, _, hb, hr, fun w' hb' hr' => ⟨es, clock, since, seen, c0, hb', F, hs, hD, hr', rest⟩⟩
theorem entry_move {P : Program} {r b : Nat} {m : List (Int × Int)} {k : TypeId} {left : Lit → Bool} {cnt : Nat} {X Y : Obj} (hR : RangeOf P k b r m left cnt X Y) {w w' : World} {v : Value} (h : (Instr.entry (.pointer (some ⟨r, 0, none⟩))).run P w = .ok v w)
   (hb : w.heap[b]? = some X) (hr : w.heap[r]? = some Y) (hb' : w'.heap[b]? = some X) (hr' : w'.heap[r]? = some Y) : (Instr.entry (.pointer (some ⟨r, 0, none⟩))).run P w' = .ok v w' := by
 obtain ⟨es, clock, since, seen, c0, hb0, _, _, _, hr0, _⟩ := hR w hb hr
 rw [hb] at hb0; rw [hr] at hr0
 cases hb0; cases hr0
 simp only [Instr.entry, getObj, Sem.run_bind, Sem.run, hr, hb, Result.andThen] at h
 simp only [Instr.entry, getObj, Sem.run_bind, Sem.run, hr', hb', Result.andThen]
 revert h
 generalize seen.back? = bk
 cases bk with
 | none => intro h; simp [Sem.run] at h
 | some q =>
   intro h
   simp only [Sem.run_bind, Sem.run, hb, Result.andThen] at h
   simp only [Sem.run_bind, Sem.run, hb', Result.andThen]
   revert h
   cases hq : (clock != c0) with
   | true => intro h; simp [Sem.run, Sem.run_bind, unsupported, Result.andThen] at h
   | false =>
     simp only [Bool.false_eq_true, if_false]
     cases hf : es.find? (fun x => x.born == q) with
     | none => intro h; simp [Sem.run, unsupported] at h
     | some e => intro h; simp only [Sem.run_pure] at h ⊢; cases h; rfl
theorem mapN_at {m : List (Int × Int)} {k : Int} {y : DataW Value × List MemPlace} {v : Value} (hv : Rv v = some y) (h : ∀ zd, (mapD (valsN m)).atKey (.int .i64 k) zd = y.1) : ∃ c, v = .int .i64 c ∧ lastAt m k = some c := by
 simp only [Rv, Option.some.injEq] at hv
 subst hv
 have h1 := h (.held (.int .i64 0))
 have h2 := h (.held (.int .i64 1))
 rw [mapD_at, lastAt_vals] at h1 h2
 cases hl : lastAt m k with
 | none =>
   rw [hl] at h1 h2
   simp only [Option.map_none, DataW.held.injEq] at h1 h2
   rw [← h1] at h2; simp at h2
 | some c =>
   rw [hl] at h1
   simp only [Option.map_some, DataW.held.injEq] at h1
   exact ⟨c, h1.symm, rfl⟩
theorem mapN_has {m : List (Int × Int)} {k : Int} : Maps.has (mapD (valsN m)) (.int .i64 k) = (lastAt m k).isSome := by
 cases hl : lastAt m k with
 | none =>
   refine Bool.eq_false_iff.2 fun q => ?_
   obtain ⟨u, hu⟩ := mapD_has.1 q
   obtain ⟨y, hy, e⟩ := List.mem_map.1 hu
   obtain ⟨z, hz, e2⟩ := List.mem_map.1 hy
   subst e2
   simp only [Prod.mk.injEq] at e
   exact lastAt_none.1 hl z.2 (by rw [← e.1]; exact hz)
 | some x => exact mapD_has.2 ⟨.int .i64 x, List.mem_map.2 ⟨_, List.mem_map.2 ⟨_, lastAt_mem hl, rfl⟩, rfl⟩⟩
section
variable {P : Program} {Q : Exit → Act → World → Prop} {a : Act} {w : World}
abbrev isO (b : Nat) (X : Obj) : Res := .obj (α := Int) b (fun x => x = X) []
theorem q_rangeM {ops : Array Oper} {N : Act → World → Prop} {n : Nat} {env : Env} {w0 : Orig} {S : Stab} {rs : List Res} {kt et : TypeId} (i d t : Nat) (x : Operand) (j b : Nat) (m : List (Int × Int)) (keep : List (Nat × Value)) (ha : EnvOk n a env) (H : Fr w0 w S rs)
   (hj : rs[j]? = some (mapN P kt b m)) (hu : P.underlying t = some (.map kt et)) (hkt : P.underlying kt = some (.int .i64))
   (k : ∀ r X Y left cnt a' w', RangeOf P kt b r m left cnt X Y → (∀ k, left (.int .i64 k) = (lastAt m k).isSome) → Fr w0 w' S (isO r Y :: rs.set j (isO b X)) → EnvOk n a' (keepEnv ((d, .pointer (some ⟨r, 0, none⟩)) :: keep)) → Below w.heap.size w w' → N a' w')
   (h : opAt ops i = some (.range t x, some d, none) := by kernel_rfl) (hx : getOp env [] x = some (.map (some b)) := by kernel_rfl)
   (hk : KeepEq n d env keep := by delta KeepEq; kernel_rfl) : wpOp P ops Q i N a w := by
 refine op_at h fun op hop hdst => ?_
 obtain ⟨⟨ob, hb, hI⟩, hvals⟩ := H.ok _ (List.mem_of_getElem? hj)
 have hown := mapI_owns hb hI
 have hlt := hown.lt
 obtain ⟨w', hrun, hrg, hG, hsz⟩ := hown.range (Maps.int_keyed hkt) hu
 have hbw : Below w.heap.size w w' := ⟨hG.os, hG.tape, hG.output, hG.size, fun k hk => hG.block k hk (by simp)⟩
 have e2 : (execOp a.eval op).run P w = .ok (.value (.pointer (some ⟨w.heap.size, 0, none⟩))) w' := by
   simp only [execOp, hop, Sem.run_bind, getOp_ok ha (fun l hl => by simp at hl) _ _ hx, hrun]
   rfl
 unfold Oper.wp
 rw [e2, Oper.upon_value]
 have hlen : (((m.map fun q => (q.1, Value.int .i64 q.2, q.2)).map fun q => (q.1, q.2.1))).length = m.length := by rw [List.length_map, List.length_map]
 rw [hlen] at hrg
 obtain ⟨X, Y, hX, hY, hR⟩ := rangeOf_mk hrg
 have hF0 : Fr w0 w' S rs := H.on hbw
 have hXb : w'.heap[b]? = some ob := (hbw.block b hlt).trans hb
 have hF1 : Fr w0 w' S (rs.set j (isO b X)) := hF0.set j hj (isO b X) ⟨⟨X, hX, rfl⟩, fun q hq => by simp at hq⟩ ⟨rfl, rfl, rfl, Nat.le_refl _, fun _ _ _ => rfl⟩ (fun b' hb' => .inl hb')
 refine k w.heap.size X Y _ _ _ _ hR (fun k => mapN_has) (hF1.put (isO w.heap.size Y) ⟨⟨Y, hY, rfl⟩, fun q hq => by simp at hq⟩ fun b' hb' => ?_) (env_put keep ha hdst hk) hbw
 cases hb'
 refine ⟨H.below.size, by omega, fun hs => by have := H.inb _ hs; omega, fun r hr e => ?_⟩
 rcases List.mem_or_eq_of_mem_set hr with q | q
 · have := (H.own r q _ e).2.1; omega
 subst q; cases e; omega
theorem q_nextM {ops : Array Oper} {N : Act → World → Prop} {n : Nat} {env : Env} {w0 : Orig} {S : Stab} {rs : List Res} {kt : TypeId} (i d : Nat) (x : Operand) (j q b r : Nat) (m : List (Int × Int)) (left : Lit → Bool) (cnt : Nat) (X Y : Obj) (keep : List (Nat × Value)) (ha : EnvOk n a env) (H : Fr w0 w S rs)
   (hj : rs[j]? = some (isO r Y)) (hq : rs[q]? = some (isO b X)) (hR : RangeOf P kt b r m left cnt X Y) (hkt : P.underlying kt = some (.int .i64))
   (kMore : ∀ (k c : Int) left' cnt' Y' a' w', left (.int .i64 k) = true → lastAt m k = some c → (∀ z, left' (.int .i64 z) = (left (.int .i64 z) && !decide (z = k))) → RangeOf P kt b r m left' cnt' X Y' → cnt' < cnt → Fr w0 w' S (rs.set j (isO r Y')) →
     (∀ w'' : World, w''.heap[b]? = some X → w''.heap[r]? = some Y' → (Instr.entry (.pointer (some ⟨r, 0, none⟩))).run P w'' = .ok (.tuple #[.int .i64 k, .int .i64 c]) w'') → EnvOk n a' (keepEnv ((d, .tuple #[.bool true, .int .i64 k, .int .i64 c]) :: keep)) → w.grownBy w' (some r) → N a' w')
   (kDone : (∀ k, left (.int .i64 k) = false) → ∀ a', EnvOk n a' (keepEnv ((d, .tuple #[.bool false]) :: keep)) → N a' w)
   (h : opAt ops i = some (.next x false, some d, none) := by kernel_rfl) (hx : getOp env [] x = some (.pointer (some ⟨r, 0, none⟩)) := by kernel_rfl)
   (hk : KeepEq n d env keep := by delta KeepEq; kernel_rfl) : wpOp P ops Q i N a w := by
 refine op_at h fun op hop hdst => ?_
 obtain ⟨⟨X0, hX, e0⟩, _⟩ := H.ok _ (List.mem_of_getElem? hq)
 obtain ⟨⟨Y0, hY, e1⟩, _⟩ := H.ok _ (List.mem_of_getElem? hj)
 have e0 : X0 = X := e0
 have e1 : Y0 = Y := e1
 subst e0 e1
 rcases (hR w hX hY).next (Maps.int_keyed hkt) op.type with ⟨h0, hl, hrun⟩ | ⟨key, v, kl, y, w', cnt', hkey, hlk, hv, hat, hrun, hrg, hlt, hG, hsz, hen⟩
 · have e2 : (execOp a.eval op).run P w = .ok (.value (.tuple #[.bool false])) w := by
     simp only [execOp, hop, Sem.run_bind, getOp_ok ha (fun l hl => by simp at hl) _ _ hx, hrun]
     rfl
   unfold Oper.wp
   rw [e2, Oper.upon_value]
   exact kDone (fun k => hl _) _ (env_put keep ha hdst hk)
 obtain ⟨k, rfl, rfl, hw⟩ := Maps.keyOf_int_inv hkt hkey
 obtain ⟨c, rfl, hc⟩ := mapN_at hv hat
 have e2 : (execOp a.eval op).run P w = .ok (.value (.tuple #[.bool true, .int .i64 k, .int .i64 c])) w' := by
   simp only [execOp, hop, Sem.run_bind, getOp_ok ha (fun l hl => by simp at hl) _ _ hx, hrun]
   rfl
 unfold Oper.wp
 rw [e2, Oper.upon_value]
 obtain ⟨X', Y', hX', hY', hR'⟩ := rangeOf_mk hrg
 have hne : b ≠ r := fun e => (hR w hX hY).ne e.symm
 have hbX : w'.heap[b]? = some X0 := (hG.block b (Array.getElem?_eq_some_iff.1 hX).1 (by simpa using hne)).trans hX
 have : X' = X0 := by rw [hbX] at hX'; cases hX'; rfl
 subst this
 refine kMore k c _ _ Y' _ w' hlk hc (fun z => ?_) hR' hlt (H.set j hj (isO r Y') ⟨⟨Y', hY', rfl⟩, fun q hq => by simp at hq⟩ hG (fun b' hb' => .inl hb')) (fun w'' h1 h2 => entry_move hR' hen hX' hY' h1 h2) (env_put keep ha hdst hk) hG
 show (left (.int .i64 z) && !(Lit.int .i64 z).sameKey (.int .i64 k)) = _
 congr 2
 simp [Lit.sameKey]
theorem entry_on {o : Orig} {S : Stab} {rs : List Res} (H : Fr o w S rs) (j q : Nat) {b r : Nat} {X Y : Obj} (hj : rs[j]? = some (isO r Y)) (hq : rs[q]? = some (isO b X)) {u : Value}
   (h : ∀ w'' : World, w''.heap[b]? = some X → w''.heap[r]? = some Y → (Instr.entry (.pointer (some ⟨r, 0, none⟩))).run P w'' = .ok u w'') : ∀ w', On w w' → (Instr.entry (.pointer (some ⟨r, 0, none⟩))).run P w' = .ok u w' := by
 obtain ⟨⟨X0, hX, e0⟩, _⟩ := H.ok _ (List.mem_of_getElem? hq)
 obtain ⟨⟨Y0, hY, e1⟩, _⟩ := H.ok _ (List.mem_of_getElem? hj)
 have e0 : X0 = X := e0
 have e1 : Y0 = Y := e1
 subst e0 e1
 exact fun w' hw' => h w' ((hw'.block b (Array.getElem?_eq_some_iff.1 hX).1).trans hX) ((hw'.block r (Array.getElem?_eq_some_iff.1 hY).1).trans hY)
end
section
variable {P : Program} {Q : Exit → Act → World → Prop} {a : Act} {w : World}
theorem q_entry {ops : Array Oper} {N : Act → World → Prop} {n : Nat} {env : Env} {w0 : Orig} {S : Stab} {rs : List Res} (i d : Nat) (x : Operand) (j q b r : Nat) (X Y : Obj) (u : Value) (keep : List (Nat × Value)) (ha : EnvOk n a env) (H : Fr w0 w S rs)
   (hj : rs[j]? = some (isO r Y)) (hq : rs[q]? = some (isO b X)) (hE : ∀ w'' : World, w''.heap[b]? = some X → w''.heap[r]? = some Y → (Instr.entry (.pointer (some ⟨r, 0, none⟩))).run P w'' = .ok u w'')
   (k : ∀ a', EnvOk n a' (keepEnv ((d, u) :: keep)) → N a' w)
   (h : opAt ops i = some (.entry x, some d, none) := by kernel_rfl) (hx : getOp env [] x = some (.pointer (some ⟨r, 0, none⟩)) := by kernel_rfl)
   (hk : KeepEq n d env keep := by delta KeepEq; kernel_rfl) : wpOp P ops Q i N a w := by
 refine op_at h fun op hop hdst => ?_
 have hrun := entry_on (P := P) H j q hj hq hE w (Below.refl _ _)
 have e2 : (execOp a.eval op).run P w = .ok (.value u) w := by
   simp only [execOp, hop, Sem.run_bind, getOp_ok ha (fun l hl => by simp at hl) _ _ hx, hrun]
   rfl
 unfold Oper.wp
 rw [e2, Oper.upon_value]
 exact k _ (env_put keep ha hdst hk)
end
def rawsT (n : Int) (vs : Int → Value) : List Raw := (List.range n.toNat).map fun q : Nat => ⟨vs (q : Int)⟩
theorem rawsT_len (n : Int) (vs : Int → Value) : (rawsT n vs).length = n.toNat := by simp [rawsT]
theorem rawsT_get {n i : Int} {vs : Int → Value} (h0 : 0 ≤ i) (h1 : i < n) : ((rawsT n vs).getD i.toNat ⟨undef⟩).v = vs i := by
 unfold rawsT
 rw [List.getD_eq_getElem?_getD, List.getElem?_map, List.getElem?_range (by omega)]
 show vs _ = _
 congr 1; omega
theorem rawsT_set {n i : Int} {vs : Int → Value} {v : Value} (h0 : 0 ≤ i) (h1 : i < n) : (rawsT n vs).set i.toNat ⟨v⟩ = rawsT n (updF vs i v) := by
 unfold rawsT
 apply List.ext_getElem
 · simp
 intro q h2 h3
 rw [List.getElem_set]
 simp only [List.getElem_map, List.getElem_range]
 by_cases e : i.toNat = q
 · rw [if_pos e]; subst e; congr 1; rw [show ((i.toNat : Nat) : Int) = i by omega, updF_same]
 rw [if_neg e, updF_ne _ _ (by omega)]
theorem rawsT_more {n : Int} {vs : Int → Value} {v : Value} (h0 : 0 ≤ n) : rawsT n vs ++ [⟨v⟩] = rawsT (n + 1) (updF vs n v) := by
 unfold rawsT
 rw [show (n + 1).toNat = n.toNat + 1 by omega, List.range_succ, List.map_append]
 congr 1
 · refine List.map_congr_left fun q hq => ?_
   have := List.mem_range.1 hq
   rw [updF_ne _ _ (by omega)]
 simp only [List.map_cons, List.map_nil]
 rw [show ((n.toNat : Nat) : Int) = n by omega, updF_same]
section
variable {o : Orig} {w : World} {S : Stab} {n : Int} {vs : Int → Value} {ls : Int → List Int}
theorem rows_more (rs : List Res) (H : Fr o w S (rs ++ rowsT n vs ls)) (h0 : 0 ≤ n) : Fr o w S (rs ++ rowsT (n + 1) (updF vs n (.slice none 0 0)) (updF ls n [])) := by
 have e : rowsT (n + 1) (updF vs n (.slice none 0 0)) (updF ls n []) = rowsT n vs ls ++ [.row 3 (.slice none 0 0) ([] : List Int)] := by
   unfold rowsT
   rw [show (n + 1).toNat = n.toNat + 1 by omega, List.range_succ, List.map_append]
   congr 1
   · refine List.map_congr_left fun q hq => ?_
     have := List.mem_range.1 hq
     simp only [rowR]
     rw [updF_ne _ _ (by omega), updF_ne _ _ (by omega)]
   simp only [List.map_cons, List.map_nil, rowR]
   rw [show ((n.toNat : Nat) : Int) = n by omega, updF_same, updF_same]
 rw [e, ← List.append_assoc]
 exact (H.newRow (α := Int) 3).perm (List.perm_append_singleton _ _).symm
theorem rows_still (rs : List Res) (H : Fr o w S (rs ++ rowsT n vs ls)) (j : Nat) {vo : Value} (hj : rs[j]? = some (.row 27 vo (rawsT n vs))) :
   ∃ S', Fr o w S' (rs.set j (.row 27 vo ((List.range n.toNat).map fun q : Nat => ls (q : Int)))) := by
 have key : ∀ k : Nat, k ≤ n.toNat → ∃ S', Fr o w S' (rs ++ ((List.range k).map (fun q : Nat => Res.ro (vs (q : Int)) (ls (q : Int))) ++ (rowsT n vs ls).drop k)) := by
   intro k
   induction k with
   | zero => intro _; exact ⟨S, by simpa using H⟩
   | succ k ih =>
     intro hk
     obtain ⟨S', h⟩ := ih (by omega)
     have hget : (rowsT n vs ls)[k]? = some (rowR vs ls (k : Int)) := by
       have := rowsT_get (n := n) (vs := vs) (ls := ls) (a := (k : Int)) (by omega) (by omega)
       rwa [Int.toNat_natCast] at this
     have hidx : (rs ++ ((List.range k).map (fun q : Nat => Res.ro (vs (q : Int)) (ls (q : Int))) ++ (rowsT n vs ls).drop k))[rs.length + k]? = some (.row 3 (vs (k : Int)) (ls (k : Int))) := by
       rw [List.getElem?_append_right (by omega), List.getElem?_append_right (by simp), List.getElem?_drop]
       simp only [List.length_map, List.length_range]
       rw [show k + (rs.length + k - rs.length - k) = k by omega]
       exact hget
     obtain ⟨S2, _, h2⟩ := h.freeze (rs.length + k) hidx
     refine ⟨S2, ?_⟩
     have hd : (rowsT n vs ls).drop k = rowR vs ls (k : Int) :: (rowsT n vs ls).drop (k + 1) := by
       obtain ⟨h5, h6⟩ := List.getElem?_eq_some_iff.1 hget
       rw [List.drop_eq_getElem_cons h5, h6]
     rw [hd] at h2
     rw [List.set_append_right _ _ (by omega), show rs.length + k - rs.length = k by omega, List.set_append_right _ _ (by simp)] at h2
     simp only [List.length_map, List.length_range, Nat.sub_self, List.set_cons_zero] at h2
     rw [List.range_succ, List.map_append, List.append_assoc]
     exact h2
 obtain ⟨S', h⟩ := key n.toNat (Nat.le_refl _)
 have hd : (rowsT n vs ls).drop n.toNat = [] := List.drop_of_length_le (by rw [rowsT_len]; exact Nat.le_refl _)
 rw [hd, List.append_nil] at h
 have hjl : j < rs.length := (List.getElem?_eq_some_iff.1 hj).1
 have hj' : (rs ++ (List.range n.toNat).map (fun q : Nat => Res.ro (vs (q : Int)) (ls (q : Int))))[j]? = some (.row 27 vo (rawsT n vs)) := by rw [List.getElem?_append_left hjl]; exact hj
 obtain ⟨xs, h1, h2⟩ := h.ok _ (List.mem_of_getElem? hj')
 have hx := row_raw h2
 refine ⟨S', ?_⟩
 have hF := h.set j hj' (.row 27 vo ((List.range n.toNat).map fun q : Nat => ls (q : Int))) ⟨xs, ?_, ?_⟩ ⟨rfl, rfl, rfl, Nat.le_refl _, fun _ _ _ => rfl⟩ (fun b hb => .inl hb)
 · rw [List.set_append_left _ _ hjl] at hF
   exact hF.sub (List.sublist_append_left _ _)
 · have e1 : (rawsT n vs).length = ((List.range n.toNat).map fun q : Nat => ls (q : Int)).length := by rw [rawsT_len]; simp
   rw [← e1]; exact h1
 refine ⟨by rw [hx, List.length_map, rawsT_len]; show _ = _ * 1; simp, fun i hi => ?_⟩
 have hi' : i < n.toNat := by simpa using hi
 have hro : Rd S' w (vs (i : Int)) (ls (i : Int)) := h.ok (.ro (vs (i : Int)) (ls (i : Int))) (List.mem_append_right _ (List.mem_map.2 ⟨i, List.mem_range.2 hi', rfl⟩))
 show Data.rd S' w ((xs.drop (i * 1)).take 1) _
 have hg : xs[i]? = some (vs (i : Int)) := by rw [hx]; simp [rawsT, List.getElem?_range hi']
 obtain ⟨h5, h6⟩ := List.getElem?_eq_some_iff.1 hg
 rw [Nat.mul_one, List.drop_eq_getElem_cons h5, List.take_succ_cons, List.take_zero, h6]
 simp only [List.getElem_map, List.getElem_range]
 exact ⟨_, rfl, rd_slice hro⟩
end
def OkUp (u : List Int) : Prop := ∀ j : Nat, j < u.length → 0 ≤ u.getD j 0 ∧ u.getD j 0 ≤ (j : Int)
def rootF (u : List Int) : Nat → Int → Int
 | 0, i => i
 | f + 1, i => if u.getD i.toNat 0 = i then i else rootF u f (u.getD i.toNat 0)
def rootL (u : List Int) (i : Int) : Int := rootF u (i.toNat + 1) i
theorem okUp_at {u : List Int} (h : OkUp u) {i : Int} (h0 : 0 ≤ i) (h1 : i < (u.length : Int)) : 0 ≤ u.getD i.toNat 0 ∧ u.getD i.toNat 0 ≤ i := by
 have := h i.toNat (by omega); omega
theorem rootF_any {u : List Int} (h : OkUp u) : ∀ (f g : Nat) (i : Int), 0 ≤ i → i < (u.length : Int) → i.toNat < f → i.toNat < g → rootF u f i = rootF u g i
 | 0, _, _, _, _, h, _ => by omega
 | _ + 1, 0, _, _, _, _, h => by omega
 | f + 1, g + 1, i, h0, h1, hf, hg => by
   unfold rootF
   split
   · rfl
   rename_i hne
   have := okUp_at h h0 h1
   exact rootF_any h f g _ this.1 (by omega) (by omega) (by omega)
theorem rootL_step {u : List Int} (h : OkUp u) {i : Int} (h0 : 0 ≤ i) (h1 : i < (u.length : Int)) : rootL u i = if u.getD i.toNat 0 = i then i else rootL u (u.getD i.toNat 0) := by
 unfold rootL
 conv => lhs; unfold rootF
 split
 · rfl
 rename_i hne
 have := okUp_at h h0 h1
 exact rootF_any h _ _ _ this.1 (by omega) (by omega) (by omega)
theorem rootL_root {u : List Int} (h : OkUp u) {i : Int} (h0 : 0 ≤ i) (h1 : i < (u.length : Int)) (hr : u.getD i.toNat 0 = i) : rootL u i = i := by rw [rootL_step h h0 h1, if_pos hr]
theorem rootL_up {u : List Int} (h : OkUp u) {i : Int} (h0 : 0 ≤ i) (h1 : i < (u.length : Int)) : rootL u (u.getD i.toNat 0) = rootL u i := by
 rw [rootL_step h h0 h1]
 split
 · rename_i e; rw [e]; exact rootL_root h h0 h1 e
 rfl
theorem rootL_ok {u : List Int} (h : OkUp u) : ∀ (n : Nat) (i : Int), i.toNat ≤ n → 0 ≤ i → i < (u.length : Int) → 0 ≤ rootL u i ∧ rootL u i ≤ i ∧ u.getD (rootL u i).toNat 0 = rootL u i := by
 intro n
 induction n with
 | zero =>
   intro i hn h0 h1
   have := okUp_at h h0 h1
   rw [rootL_root h h0 h1 (by omega)]
   exact ⟨h0, Int.le_refl _, by omega⟩
 | succ n ih =>
   intro i hn h0 h1
   have hu := okUp_at h h0 h1
   rw [rootL_step h h0 h1]
   split
   · rename_i e; exact ⟨h0, Int.le_refl _, e⟩
   rename_i e
   obtain ⟨a, b, c⟩ := ih (u.getD i.toNat 0) (by omega) hu.1 (by omega)
   exact ⟨a, by omega, c⟩
theorem rootL_of {u : List Int} (h : OkUp u) {i : Int} (h0 : 0 ≤ i) (h1 : i < (u.length : Int)) : 0 ≤ rootL u i ∧ rootL u i ≤ i ∧ u.getD (rootL u i).toNat 0 = rootL u i := rootL_ok h _ i (Nat.le_refl _) h0 h1
theorem rootL_idem {u : List Int} (h : OkUp u) {i : Int} (h0 : 0 ≤ i) (h1 : i < (u.length : Int)) : rootL u (rootL u i) = rootL u i := by
 obtain ⟨a, b, c⟩ := rootL_of h h0 h1
 exact rootL_root h a (by omega) c
theorem getD_set {u : List Int} {i j : Nat} {x : Int} (hi : i < u.length) : (u.set i x).getD j 0 = if i = j then x else u.getD j 0 := by
 rw [List.getD_eq_getElem?_getD, List.getElem?_set, List.getD_eq_getElem?_getD]
 split
 · rename_i e; subst e; simp [hi]
 rfl
theorem half_ok {u : List Int} (h : OkUp u) {i : Int} (h0 : 0 ≤ i) (h1 : i < (u.length : Int)) :
   OkUp (u.set i.toNat (u.getD (u.getD i.toNat 0).toNat 0)) ∧ ∀ j, 0 ≤ j → j < (u.length : Int) → rootL (u.set i.toNat (u.getD (u.getD i.toNat 0).toNat 0)) j = rootL u j := by
 have hu := okUp_at h h0 h1
 have hz := okUp_at h hu.1 (show u.getD i.toNat 0 < (u.length : Int) by omega)
 have hok : OkUp (u.set i.toNat (u.getD (u.getD i.toNat 0).toNat 0)) := by
   intro j hj
   rw [List.length_set] at hj
   rw [getD_set (by omega)]
   split
   · rename_i e; subst e; omega
   exact h j hj
 refine ⟨hok, ?_⟩
 have key : ∀ (n : Nat) (j : Int), j.toNat ≤ n → 0 ≤ j → j < (u.length : Int) → rootL (u.set i.toNat (u.getD (u.getD i.toNat 0).toNat 0)) j = rootL u j := by
   intro n
   induction n with
   | zero =>
     intro j hn hj0 hj1
     have a := okUp_at h hj0 hj1
     have b := okUp_at hok hj0 (by rw [List.length_set]; exact hj1)
     rw [rootL_root h hj0 hj1 (by omega), rootL_root hok hj0 (by rw [List.length_set]; exact hj1) (by omega)]
   | succ n ih =>
     intro j hn hj0 hj1
     have a := okUp_at h hj0 hj1
     have hj1' : j < ((u.set i.toNat (u.getD (u.getD i.toNat 0).toNat 0)).length : Int) := by rw [List.length_set]; exact hj1
     rw [rootL_step hok hj0 hj1', getD_set (by omega)]
     by_cases e : i.toNat = j.toNat
     · have e : i = j := by omega
       subst e
       rw [if_pos rfl]
       by_cases c : u.getD (u.getD i.toNat 0).toNat 0 = i
       · rw [if_pos c, rootL_root h h0 h1 (by omega)]
       rw [if_neg c, ih _ (by omega) hz.1 (by omega), rootL_up h hu.1 (by omega), rootL_up h h0 h1]
     rw [if_neg e]
     rw [rootL_step h hj0 hj1]
     split
     · rfl
     exact ih _ (by omega) a.1 (by omega)
 exact fun j => key j.toNat j (Nat.le_refl _)
theorem root_step {u c : List Int} {i k x : Int} (h : OkUp c) (h0 : 0 ≤ i) (h1 : i < (c.length : Int)) (hl : (c.length : Int) = k) (hr : ∀ j, 0 ≤ j → j < k → rootL c j = rootL u j) (hx : rootL c i = rootL u x) :
   0 ≤ (c.set i.toNat (c.getD (c.getD i.toNat 0).toNat 0)).getD i.toNat 0 ∧ (c.set i.toNat (c.getD (c.getD i.toNat 0).toNat 0)).getD i.toNat 0 < k ∧ ((c.set i.toNat (c.getD (c.getD i.toNat 0).toNat 0)).length : Int) = k ∧ OkUp (c.set i.toNat (c.getD (c.getD i.toNat 0).toNat 0)) ∧
     (∀ j, 0 ≤ j → j < k → rootL (c.set i.toNat (c.getD (c.getD i.toNat 0).toNat 0)) j = rootL u j) ∧ rootL (c.set i.toNat (c.getD (c.getD i.toNat 0).toNat 0)) ((c.set i.toNat (c.getD (c.getD i.toNat 0).toNat 0)).getD i.toNat 0) = rootL u x := by
 have hy := okUp_at h h0 h1
 have hz := okUp_at h hy.1 (show c.getD i.toNat 0 < (c.length : Int) by omega)
 obtain ⟨a, b⟩ := half_ok h h0 h1
 have e : (c.set i.toNat (c.getD (c.getD i.toNat 0).toNat 0)).getD i.toNat 0 = c.getD (c.getD i.toNat 0).toNat 0 := by rw [getD_set (by omega), if_pos rfl]
 rw [e]
 refine ⟨hz.1, by omega, by rw [List.length_set]; exact hl, a, fun j j0 j1 => by rw [b j j0 (by omega)]; exact hr j j0 j1, ?_⟩
 rw [b _ hz.1 (by omega), rootL_up h hy.1 (by omega), rootL_up h h0 h1, hx]
def joinR (R : Int → Int) (x y : Int) : Int → Int := fun j => if R j = max (R x) (R y) then min (R x) (R y) else R j
theorem join_ok {u : List Int} (h : OkUp u) {r s : Int} (hr : 0 ≤ r) (hs : 0 ≤ s) (hr1 : r < (u.length : Int)) (hs1 : s < (u.length : Int)) (er : u.getD r.toNat 0 = r) (es : u.getD s.toNat 0 = s) (hne : r ≠ s) :
   OkUp (u.set (max r s).toNat (min r s)) ∧ ∀ j, 0 ≤ j → j < (u.length : Int) → rootL (u.set (max r s).toNat (min r s)) j = if rootL u j = max r s then min r s else rootL u j := by
 have hok : OkUp (u.set (max r s).toNat (min r s)) := by
   intro j hj
   rw [List.length_set] at hj
   rw [getD_set (by omega)]
   split
   · rename_i e; subst e; omega
   exact h j hj
 refine ⟨hok, ?_⟩
 have rM : u.getD (max r s).toNat 0 = max r s := by
   rcases Int.le_total r s with q | q
   · rw [Int.max_eq_right q]; exact es
   rw [Int.max_eq_left q]; exact er
 have rm : u.getD (min r s).toNat 0 = min r s := by
   rcases Int.le_total r s with q | q
   · rw [Int.min_eq_left q]; exact er
   rw [Int.min_eq_right q]; exact es
 have key : ∀ (n : Nat) (j : Int), j.toNat ≤ n → 0 ≤ j → j < (u.length : Int) → rootL (u.set (max r s).toNat (min r s)) j = if rootL u j = max r s then min r s else rootL u j := by
   intro n
   induction n with
   | zero =>
     intro j hn hj0 hj1
     have a := okUp_at h hj0 hj1
     have b := okUp_at hok hj0 (by rw [List.length_set]; exact hj1)
     rw [rootL_root h hj0 hj1 (by omega), rootL_root hok hj0 (by rw [List.length_set]; exact hj1) (by omega), if_neg (by omega)]
   | succ n ih =>
     intro j hn hj0 hj1
     have a := okUp_at h hj0 hj1
     have hj1' : j < ((u.set (max r s).toNat (min r s)).length : Int) := by rw [List.length_set]; exact hj1
     rw [rootL_step hok hj0 hj1', getD_set (by omega)]
     by_cases e : (max r s).toNat = j.toNat
     · have e : j = max r s := by omega
       subst e
       rw [if_pos rfl, if_neg (by omega), ih (min r s) (by omega) (by omega) (by omega), rootL_root h (by omega) (by omega) rm, rootL_root h hj0 hj1 rM, if_neg (by omega), if_pos rfl]
     rw [if_neg e, rootL_step h hj0 hj1]
     split
     · rename_i c; rw [if_neg (by omega)]
     exact ih _ (by omega) a.1 (by omega)
 exact fun j => key j.toNat j (Nat.le_refl _)
theorem getD_append {u : List Int} {j : Nat} {x : Int} : (u ++ [x]).getD j 0 = if j < u.length then u.getD j 0 else if j = u.length then x else 0 := by
 rw [List.getD_eq_getElem?_getD, List.getD_eq_getElem?_getD, List.getElem?_append]
 split
 · rfl
 by_cases e : j = u.length
 · rw [if_pos e]; simp [e]
 rw [if_neg e, List.getElem?_eq_none (by simp; omega)]; rfl
theorem add_ok {u : List Int} (h : OkUp u) : OkUp (u ++ [(u.length : Int)]) ∧ (∀ j, 0 ≤ j → j < (u.length : Int) → rootL (u ++ [(u.length : Int)]) j = rootL u j) ∧ rootL (u ++ [(u.length : Int)]) (u.length : Int) = (u.length : Int) := by
 have hok : OkUp (u ++ [(u.length : Int)]) := by
   intro j hj
   rw [List.length_append, List.length_singleton] at hj
   rw [getD_append]
   split
   · exact h j (by assumption)
   rw [if_pos (by omega)]; omega
 have hl : ((u ++ [(u.length : Int)]).length : Int) = (u.length : Int) + 1 := by simp
 refine ⟨hok, ?_, rootL_root hok (by omega) (by omega) (by rw [getD_append, if_neg (by omega), if_pos (by omega)])⟩
 have key : ∀ (n : Nat) (j : Int), j.toNat ≤ n → 0 ≤ j → j < (u.length : Int) → rootL (u ++ [(u.length : Int)]) j = rootL u j := by
   intro n
   induction n with
   | zero =>
     intro j hn hj0 hj1
     have a := okUp_at h hj0 hj1
     rw [rootL_root h hj0 hj1 (by omega), rootL_root hok hj0 (by omega) (by rw [getD_append, if_pos (by omega)]; omega)]
   | succ n ih =>
     intro j hn hj0 hj1
     have a := okUp_at h hj0 hj1
     have e9 : (u ++ [(u.length : Int)]).getD j.toNat 0 = u.getD j.toNat 0 := by rw [getD_append, if_pos (by omega)]
     rw [rootL_step hok hj0 (by omega), rootL_step h hj0 hj1, e9]
     split
     · rfl
     exact ih _ (by omega) a.1 (by omega)
 exact fun j => key j.toNat j (Nat.le_refl _)
def rootsTo (R : Int → Int) (i : Int) : List Int := (upto i).filter fun r => decide (R r = r)
def groupsR (R : Int → Int) (k : Int) : List (List Int) := (rootsTo R k).map fun r => (upto k).filter fun j => decide (R j = r)
structure GrpI (R : Int → Int) (i n : Int) (g : Int → Int) (ls : Int → List Int) : Prop where
 cnt : n = ((rootsTo R i).length : Int)
 at_ : ∀ r, r ∈ rootsTo R i → 0 ≤ g r ∧ g r < n ∧ (rootsTo R i).getD (g r).toNat 0 = r
 row : ∀ q, 0 ≤ q → q < n → ls q = (upto i).filter (fun j => decide (R j = (rootsTo R i).getD q.toNat 0))
theorem grp_start (R : Int → Int) (g : Int → Int) (ls : Int → List Int) : GrpI R 0 0 g ls := ⟨by simp [rootsTo, upto], fun r hr => by simp [rootsTo, upto] at hr, fun q h0 h1 => by omega⟩
theorem rootsTo_succ {R : Int → Int} {i : Int} (h : 0 ≤ i) : rootsTo R (i + 1) = if R i = i then rootsTo R i ++ [i] else rootsTo R i := by
 unfold rootsTo
 rw [upto_succ h, List.filter_append, List.filter_cons]
 by_cases c : R i = i
 · rw [if_pos (decide_eq_true c), if_pos c]; rfl
 rw [if_neg (by rw [decide_eq_true_eq]; exact c), if_neg c]; simp
theorem rootsTo_nodup (R : Int → Int) (i : Int) : (rootsTo R i).Nodup := ((upto_asc i).sublist List.filter_sublist).imp fun h e => by omega
theorem filter_succ {R : Int → Int} {i r : Int} (h : 0 ≤ i) : (upto (i + 1)).filter (fun j => decide (R j = r)) = if R i = r then (upto i).filter (fun j => decide (R j = r)) ++ [i] else (upto i).filter (fun j => decide (R j = r)) := by
 rw [upto_succ h, List.filter_append, List.filter_cons]
 by_cases c : R i = r
 · rw [if_pos (decide_eq_true c), if_pos c]; rfl
 rw [if_neg (by rw [decide_eq_true_eq]; exact c), if_neg c]; simp
theorem getD_inj {l : List Int} (h : l.Nodup) {i j : Nat} (hi : i < l.length) (hj : j < l.length) (e : l.getD i 0 = l.getD j 0) : i = j := by
 rw [List.getD_eq_getElem?_getD, List.getD_eq_getElem?_getD, List.getElem?_eq_getElem hi, List.getElem?_eq_getElem hj] at e
 exact (List.getElem_inj h).1 e
theorem grp_old {R : Int → Int} {i n : Int} {g : Int → Int} {ls : Int → List Int} (h : GrpI R i n g ls) (h0 : 0 ≤ i) (hr : R i ∈ rootsTo R i) (hne : R i ≠ i) :
   GrpI R (i + 1) n g (updF ls (g (R i)) (ls (g (R i)) ++ [i])) := by
 have e := rootsTo_succ (R := R) h0
 rw [if_neg hne] at e
 obtain ⟨a, b, c⟩ := h.at_ _ hr
 refine ⟨by rw [e]; exact h.cnt, fun r hq => by rw [e] at hq ⊢; exact h.at_ r hq, fun q q0 q1 => ?_⟩
 rw [e, filter_succ h0]
 by_cases c2 : q = g (R i)
 · subst c2
   rw [updF_same, if_pos c.symm, h.row _ q0 q1]
 rw [updF_ne _ _ c2, if_neg, h.row _ q0 q1]
 intro e2
 have hc := h.cnt
 exact c2 (by have := getD_inj (rootsTo_nodup R i) (i := q.toNat) (j := (g (R i)).toNat) (by omega) (by omega) (e2.symm.trans c.symm); omega)
theorem grp_new {R : Int → Int} {i n : Int} {g : Int → Int} {ls : Int → List Int} (h : GrpI R i n g ls) (h0 : 0 ≤ i) (hR : ∀ j, 0 ≤ j → j < i → R j ≠ i) (hr : R i = i) :
   GrpI R (i + 1) (n + 1) (Deep.upd g i n) (updF (updF ls n []) n ([] ++ [i])) := by
 have e := rootsTo_succ (R := R) h0
 rw [if_pos hr] at e
 have hc := h.cnt
 have hin : ∀ r ∈ rootsTo R i, r < i := fun r hq => (mem_upto.1 (List.mem_filter.1 hq).1).2
 refine ⟨by rw [e, List.length_append]; simp; omega, fun r hq => ?_, fun q q0 q1 => ?_⟩
 · rw [e] at hq ⊢
   rcases List.mem_append.1 hq with hq | hq
   · obtain ⟨a, b, c⟩ := h.at_ r hq
     have hlt := hin r hq
     rw [Deep.upd_ne _ _ (by omega)]
     exact ⟨a, by omega, by rw [getD_append, if_pos (by omega)]; exact c⟩
   rw [List.mem_singleton.1 hq, Deep.upd_same]
   exact ⟨by omega, by omega, by rw [getD_append, if_neg (by omega), if_pos (by omega)]⟩
 rw [e, filter_succ h0, hr]
 by_cases c2 : q = n
 · subst c2
   have e9 : (rootsTo R i ++ [i]).getD q.toNat 0 = i := by rw [getD_append, if_neg (by omega), if_pos (by omega)]
   rw [updF_same, e9, if_pos rfl]
   have : (upto i).filter (fun j => decide (R j = i)) = [] := List.filter_eq_nil_iff.2 fun j hj => by rw [decide_eq_true_eq]; exact hR j (mem_upto.1 hj).1 (mem_upto.1 hj).2
   rw [this]
 have e9 : (rootsTo R i ++ [i]).getD q.toNat 0 = (rootsTo R i).getD q.toNat 0 := by rw [getD_append, if_pos (by omega)]
 rw [updF_ne _ _ c2, updF_ne _ _ c2, e9, if_neg, h.row q q0 (by omega)]
 intro e2
 have := hin _ (mem_getD.2 ⟨q.toNat, by omega, rfl⟩)
 omega
theorem grp_end {R : Int → Int} {k n : Int} {g : Int → Int} {ls : Int → List Int} (h : GrpI R k n g ls) : ((List.range n.toNat).map fun q : Nat => ls (q : Int)) = groupsR R k := by
 have hc := h.cnt
 unfold groupsR
 apply List.ext_getElem
 · simp; omega
 intro q h1 h2
 simp only [List.length_map, List.length_range] at h1
 simp only [List.getElem_map, List.getElem_range]
 rw [h.row (q : Int) (by omega) (by omega)]
 have : (rootsTo R k).getD ((q : Int)).toNat 0 = (rootsTo R k)[q] := by
   rw [Int.toNat_natCast, List.getD_eq_getElem?_getD, List.getElem?_eq_getElem (by omega)]; rfl
 rw [this]
theorem joinR_same {R : Int → Int} {x y : Int} (h : R x = R y) (j : Int) : joinR R x y j = R j := by
 unfold joinR; rw [h, Int.max_self, Int.min_self]; split
 · rename_i e; exact e.symm
 rfl
theorem rootsTo_mem {R : Int → Int} {i r : Int} (h0 : 0 ≤ r) (h1 : r < i) (h : R r = r) : r ∈ rootsTo R i := List.mem_filter.2 ⟨mem_upto.2 ⟨h0, h1⟩, decide_eq_true h⟩
theorem grp_new2 {R : Int → Int} {i n a : Int} {g : Int → Int} {ls : Int → List Int} (h : GrpI R i n g ls) (h0 : 0 ≤ i) (hR : ∀ j, 0 ≤ j → j < i → R j ≠ i) (hr : R i = i) (ha : a = n) :
   GrpI R (i + 1) (n + 1) (Deep.upd g i n) (updF (updF ls n []) a ((updF ls n []) a ++ [i])) := by
 subst ha
 have := grp_new h h0 hR hr
 rw [updF_same] 
 exact this
theorem can_idle (p : Addr) (w : World) (hc : ∃ x, w.cell? p = some (.bool x)) (hz : w.frozen? p = false) :
   CallsD Try.prog 146 #[.pointer (some p)] .returning w fun e u' w' => e = .returned (.tuple #[]) ∧ u' = .returning ∧ w' = w.setCell p (.bool true) := by
 obtain ⟨x, hc⟩ := hc
 refine callsD_of_wpS Try.func146 rfl fun c₀ cs hu => ?_
 apply wpS_region
 simp [wpOpsS, go_sem, recoverD, hu, Try.ntmps146, Exit.thenS, hc, hz, bodyPostS, results, Try.results146]
 cases c₀
 simp_all
theorem can_any (sb pb : Nat) (x : Int) (w : World) (hc1 : (w.alloc (.cells #[.bool false] 4)).cell? ⟨sb, 0, none⟩ = some (.map (some pb))) (hl : ∃ v, (Instr.lookup 130 (.map (some pb)) (.int .i64 x) false).run Try.prog (w.alloc (.cells #[.bool false] 4)) = .ok v (w.alloc (.cells #[.bool false] 4))) :
   Calls Try.prog 134 #[.pointer (some ⟨sb, 0, none⟩), .int .i64 x] w (Ans (.bool true) w) := by
 obtain ⟨v, hl⟩ := hl
 have hmf : ∀ (fn : Fn) (first cap : Array Value) (w : World), (Instr.makeFunc fn first cap).run Try.prog w = .ok (.func fn first cap) w := fun _ _ _ _ => rfl
 go_enter_defers Try.func134, Try.ntmps134
 go_wp2
 refine leaves_cons (f := 146) (args := #[.pointer (some ⟨w.heap.size, 0, none⟩)]) (by simp) (by simp [go_sem]) ?_
 refine (can_idle ⟨w.heap.size, 0, none⟩ _ ⟨true, by simp [go_sem]⟩ (by simp [go_sem])).mono ?_
 rintro e u' w'' ⟨rfl, rfl, rfl⟩
 simp [Leaves, settle, results, Try.results134, go_sem]
 exact ⟨rfl, below_new _ _⟩
def idM (k : Int) : List (Int × Int) := (upto k).map fun i => (i, i)
theorem idM_len (k : Int) : (idM k).length = k.toNat := by unfold idM; rw [List.length_map, upto_len]
theorem idM_snoc {k : Int} (h : 0 ≤ k) : idM k ++ [(k, k)] = idM (k + 1) := by unfold idM; rw [upto_succ h, List.map_append]; rfl
theorem idM_at {k x : Int} (h0 : 0 ≤ x) (h1 : x < k) : lastAt (idM k) x = some x := by
 obtain ⟨y, hy⟩ := lastAt_some (ins := idM k) (k := x) (x := x) (List.mem_map.2 ⟨x, mem_upto.2 ⟨h0, h1⟩, rfl⟩)
 obtain ⟨z, _, e⟩ := List.mem_map.1 (lastAt_mem hy)
 simp only [Prod.mk.injEq] at e
 rw [hy, ← e.2, e.1]
theorem idM_out {k x : Int} (h : k ≤ x) : lastAt (idM k) x = none := by
 refine lastAt_none.2 fun y hy => ?_
 obtain ⟨z, hz, e⟩ := List.mem_map.1 hy
 simp only [Prod.mk.injEq] at e
 have := mem_upto.1 hz
 omega
abbrev setR (sb pb : Nat) (v1 v2 : Value) (k : Int) (u : List Int) (g : Int) (tl : List Res) : List Res :=
 .box sb 156 [.map (some pb), v1, v2, .int .i64 g] :: mapN Try.prog 3 pb (idM k) :: .row 3 v1 (upto k) :: .row 3 v2 u :: tl
theorem obj_on {o : Orig} {w : World} {S : Stab} {rs : List Res} (H : Fr o w S rs) (j : Nat) {α : Type} [Data α] {b : Nat} {I : Obj → Prop} {vals : List (Value × α)} (hj : rs[j]? = some (.obj b I vals)) : ∀ w', On w w' → w'.heap[b]? = w.heap[b]? :=
 fun w' hw' => hw'.block b (H.own _ (List.mem_of_getElem? hj) b rfl).2.1
theorem can_fr {o : Orig} {w : World} {S : Stab} {rs : List Res} (H : Fr o w S rs) (j q : Nat) {sb pb : Nat} {vs : List Value} {m : List (Int × Int)} {x : Int} (hj : rs[j]? = some (.box sb 156 (.map (some pb) :: vs))) (hq : rs[q]? = some (mapN Try.prog 3 pb m)) (hx : wfI x) :
   Calls Try.prog 134 #[.pointer (some ⟨sb, 0, none⟩), .int .i64 x] w (Ans (.bool true) w) := by
 have hb := below_new w (.cells #[.bool false] 4)
 refine can_any sb pb x w ?_ ⟨_, mapN_look H q hq (obj_on H q hq) hx Try.underlying130 Try.underlying3 (fun w => by kernel_rfl) _ hb⟩
 have := box_cell (H.on hb) j hj 0 (u := .map (some pb)) rfl _ (Below.refl _ _)
 exact this
theorem Try.E27 : Elem Try.prog 27 3 (Data.size Int) 8 := elem_of (z := .int .i64 0) Try.underlying27 (by kernel_rfl) rfl (by decide)
theorem put_old (sb pb : Nat) (v1 v2 : Value) (k : Int) (u : List Int) (g : Int) (o : Orig) (S : Stab) (tl : List Res) (x : Int) (w : World) (hH : Fr o w S (setR sb pb v1 v2 k u g tl)) (hk0 : 0 ≤ k) (hkm : k ≤ 1000000) (hul : (u.length : Int) = k) (hok : OkUp u) (hgm : -1000000 ≤ g ∧ g ≤ 1000000) (hx0 : 0 ≤ x) (hx1 : x < k) :
 Calls Try.prog 135 [.pointer (some ⟨sb, 0, none⟩), .int .i64 x].toArray w (fun e w' => ∃ q, e = .returned q ∧ q = .int .i64 x ∧ ∃ S, Fr o w' S (setR sb pb v1 v2 k u g tl)) := by
 have hupl := upto_len k
 refine enter Try.f135 58 Try.func135 fun a hA => ?_
 replace hA := env_sub [(0, pv sb), (1, iv x)] hA
 have H := hH
 refine go_seq fun K1 hK1 => ?_
 refine q_reg [] [(0, pv sb), (1, iv x)] (TT ∧ True) hA H ⟨tv, tv⟩ fun a w2 hA H hG => ?_
 refine hK1 _ _ ?_
 refine go_seq fun K3 hK3 => ?_
 refine go_seq fun K4 hK4 => ?_
 refine q_reg [(12, (.map (some pb))), (14, .tuple #[.int .i64 ((lastAt (idM k) x).getD 0), .bool ((lastAt (idM k) x).isSome)])] [(0, pv sb), (1, iv x), (5, iv ((lastAt (idM k) x).getD 0)), (6, .bool ((lastAt (idM k) x).isSome))] (TT ∧ TT ∧ (0 < Try.prog.cellsOf 130) ∧ (CellOk (On w2) sb (0 + 0) ((.map (some pb)))) ∧ TT ∧ (∀ w', On w2 w' → (Instr.lookup 130 (.map (some pb)) (.int .i64 x) true).run Try.prog w' = .ok (.tuple #[.int .i64 ((lastAt (idM k) x).getD 0), .bool ((lastAt (idM k) x).isSome)]) w') ∧ TT ∧ TT ∧ TT ∧ TT ∧ TT ∧ True) hA H ⟨tv, tv, by decide +kernel, by exact box_cell H 0 rfl 0, tv, by exact mapN_lookT H 1 rfl (obj_on H 1 rfl) ⟨by omega, by omega⟩ Try.underlying130 Try.underlying3 (fun w => by kernel_rfl), tv, tv, tv, tv, tv, tv⟩ fun a w5 hA H hG => ?_
 refine hK4 _ _ ?_
 refine go_seq fun K6 hK6 => ?_
 have hla := idM_at hx0 hx1
 refine q_reg [] [(0, pv sb), (1, iv x), (5, iv ((lastAt (idM k) x).getD 0)), (17, .bool ((lastAt (idM k) x).isSome))] (TT ∧ True) hA H ⟨tv, tv⟩ fun a w7 hA H hG => ?_
 refine hK6 _ _ ?_
 refine go_cond hA (.tmp 17) ((lastAt (idM k) x).isSome) (fun hb8 => ?_) (fun hb8 => ?_)
 · have hhb8 := hb8
   refine go_seq fun K9 hK9 => ?_
   refine q_reg [] [(4, iv ((lastAt (idM k) x).getD 0))] (TT ∧ TT ∧ True) hA H ⟨tv, tv, tv⟩ fun a w10 hA H hG => ?_
   refine hK9 _ _ ?_
   refine go_ret_ ?_
   refine ret_one (P := Try.prog) (fn := Try.f135) (R := (fun e w' => ∃ q, e = .returned q ∧ q = .int .i64 x ∧ ∃ S, Fr o w' S (setR sb pb v1 v2 k u g tl))) 4 (.int .i64 ((lastAt (idM k) x).getD 0)) hA ?_
   exact ⟨_, rfl, by rw [hla]; rfl, _, H⟩
 have hhb8 := hb8
 rw [hla] at hhb8; cases hhb8
theorem put_new (sb pb : Nat) (v1 v2 : Value) (k : Int) (u : List Int) (g : Int) (o : Orig) (S : Stab) (tl : List Res) (w : World) (hH : Fr o w S (setR sb pb v1 v2 k u g tl)) (hk0 : 0 ≤ k) (hkm : k ≤ 1000000) (hul : (u.length : Int) = k) (hok : OkUp u) (hgm : -1000000 ≤ g ∧ g ≤ 1000000) :
 Calls Try.prog 135 [.pointer (some ⟨sb, 0, none⟩), .int .i64 k].toArray w (fun e w' => ∃ q, e = .returned q ∧ q = .int .i64 k ∧ ∃ S v1 v2, Fr o w' S (setR sb pb v1 v2 (k + 1) (u ++ [k]) (g + 1) tl)) := by
 have hupl := upto_len k
 refine enter Try.f135 58 Try.func135 fun a hA => ?_
 replace hA := env_sub [(0, pv sb), (1, iv k)] hA
 have H := hH
 refine go_seq fun K1 hK1 => ?_
 refine q_reg [] [(0, pv sb), (1, iv k)] (TT ∧ True) hA H ⟨tv, tv⟩ fun a w2 hA H hG => ?_
 refine hK1 _ _ ?_
 refine go_seq fun K3 hK3 => ?_
 refine go_seq fun K4 hK4 => ?_
 refine q_reg [(12, (.map (some pb))), (14, .tuple #[.int .i64 ((lastAt (idM k) k).getD 0), .bool ((lastAt (idM k) k).isSome)])] [(0, pv sb), (1, iv k), (5, iv ((lastAt (idM k) k).getD 0)), (6, .bool ((lastAt (idM k) k).isSome))] (TT ∧ TT ∧ (0 < Try.prog.cellsOf 130) ∧ (CellOk (On w2) sb (0 + 0) ((.map (some pb)))) ∧ TT ∧ (∀ w', On w2 w' → (Instr.lookup 130 (.map (some pb)) (.int .i64 k) true).run Try.prog w' = .ok (.tuple #[.int .i64 ((lastAt (idM k) k).getD 0), .bool ((lastAt (idM k) k).isSome)]) w') ∧ TT ∧ TT ∧ TT ∧ TT ∧ TT ∧ True) hA H ⟨tv, tv, by decide +kernel, by exact box_cell H 0 rfl 0, tv, by exact mapN_lookT H 1 rfl (obj_on H 1 rfl) ⟨by omega, by omega⟩ Try.underlying130 Try.underlying3 (fun w => by kernel_rfl), tv, tv, tv, tv, tv, tv⟩ fun a w5 hA H hG => ?_
 refine hK4 _ _ ?_
 refine go_seq fun K6 hK6 => ?_
 have hla := idM_out (k := k) (x := k) (Int.le_refl _)
 refine q_reg [] [(0, pv sb), (1, iv k), (5, iv ((lastAt (idM k) k).getD 0)), (17, .bool ((lastAt (idM k) k).isSome))] (TT ∧ True) hA H ⟨tv, tv⟩ fun a w7 hA H hG => ?_
 refine hK6 _ _ ?_
 refine go_cond hA (.tmp 17) ((lastAt (idM k) k).isSome) (fun hb8 => ?_) (fun hb8 => ?_)
 · have hhb8 := hb8
   rw [hla] at hhb8; cases hhb8
 have hhb8 := hb8
 refine go_skip ?_
 refine hK3 _ _ ?_
 refine go_seq fun K9 hK9 => ?_
 have hupk : ((upto k).length : Int) = k := by omega
 have hml := idM_len k
 refine q_reg [(22, v1), (23, iv ((upto k).length : Int))] [(0, pv sb), (1, iv k), (7, iv ((upto k).length : Int))] (TT ∧ TT ∧ (0 < Try.prog.cellsOf 27) ∧ (CellOk (On w7) sb (0 + 1) (v1)) ∧ (LenOk v1 ((upto k).length : Int)) ∧ TT ∧ True) hA H ⟨tv, tv, by decide +kernel, by exact box_cell H 0 rfl 1, by exact len_ok (H.out 2 rfl), tv, tv⟩ fun a w10 hA H hG => ?_
 refine hK9 _ _ ?_
 refine go_seq fun K11 hK11 => ?_
 refine region_list ?_
 refine q_list 0 6 [(27, (.map (some pb)))] [(0, pv sb), (1, iv k), (7, iv ((upto k).length : Int)), (27, (.map (some pb))), (28, iv k), (29, iv ((upto k).length : Int))] (TT ∧ TT ∧ (0 < Try.prog.cellsOf 130) ∧ (CellOk (On w10) sb (0 + 0) ((.map (some pb)))) ∧ TT ∧ TT ∧ True) hA H ⟨tv, tv, by decide +kernel, by exact box_cell H 0 rfl 0, tv, tv, tv⟩ fun a w12 hA H hG => ?_
 refine list_at 6 ?_; refine q_mapUpdateN 6 130 (.tmp 27) (.tmp 28) (.tmp 29) 1 pb (idM k) k ((upto k).length : Int) [(0, pv sb), (1, iv k), (7, iv ((upto k).length : Int))] hA H rfl ⟨by omega, by omega⟩ (by (try simp only [List.length_append, List.length_cons, List.length_nil]); omega) Try.underlying130 Try.underlying3 fun a w13 H hA hG => ?_
 replace H : Fr _ _ _ (.box sb 156 [(.map (some pb)), v1, v2, .int .i64 g] :: mapN Try.prog 3 pb ((idM k) ++ [(k, ((upto k).length : Int))]) :: .row 3 v1 (upto k) :: .row 3 v2 u :: tl) := H
 refine list_end ?_
 refine hK11 _ _ ?_
 refine go_seq fun K14 hK14 => ?_
 refine region_list ?_
 refine q_list 0 6 [(34, v1)] [(0, pv sb), (7, iv ((upto k).length : Int)), (30, pv sb), (34, v1), (35, iv k)] (TT ∧ TT ∧ TT ∧ (0 < Try.prog.cellsOf 27) ∧ (CellOk (On w13) sb (0 + 1) (v1)) ∧ TT ∧ True) hA H ⟨tv, tv, tv, by decide +kernel, by exact box_cell H 0 rfl 1, tv, tv⟩ fun a w15 hA H hG => ?_
 refine list_at 6 ?_; refine q_lit 6 36 27 1 #[(0, .tmp 35)] 3 [(0, iv k)] [.int .i64 k] [(0, pv sb), (7, iv ((upto k).length : Int)), (30, pv sb), (34, v1)] hA H fun b16 a w17 H hA hG hge_b16 => ?_
 clear hge_b16
 refine list_at 7 ?_; refine q_push 7 37 (.tmp 34) (.tmp 36) 3 0 b16 1 1 v1 (upto k) [k] [.int .i64 k] [(0, pv sb), (7, iv ((upto k).length : Int)), (30, pv sb)] hA H Try.E27 rfl rfl (by exact (RowRd.single (α := Int) rfl)) rfl (by simp only [List.length_cons, List.length_nil, List.length_append]; omega) (by decide) fun v18 a w19 H hA hG => ?_
 replace H : Fr _ _ _ (.box sb 156 [(.map (some pb)), v1, v2, .int .i64 g] :: mapN Try.prog 3 pb ((idM k) ++ [(k, ((upto k).length : Int))]) :: .row 3 v18 ((upto k) ++ [k]) :: .row 3 v2 u :: tl) := H.drop 0
 refine q_list 8 2 [] [(0, pv sb), (7, iv ((upto k).length : Int)), (37, v18), (39, .pointer (some ⟨sb, 0 + 1, none⟩))] (TT ∧ (0 < Try.prog.cellsOf 27) ∧ True) hA H ⟨tv, by decide +kernel, tv⟩ fun a w20 hA H hG => ?_
 refine list_at 10 ?_; refine q_store 10 27 (.tmp 39) (.tmp 37) 0 sb (0 + 1) 156 [(.map (some pb)), v1, v2, .int .i64 g] [v18] [(.map (some pb)), v18, v2, .int .i64 g] v18 [(0, pv sb), (7, iv ((upto k).length : Int))] hA H rfl (one_cells (rd_one (H.out 2 rfl))) (Nat.le_of_ble_eq_true (by kernel_rfl)) rfl (fun v hv => by simp only [List.mem_cons, List.not_mem_nil, or_false] at hv; rcases hv with rfl; exact (rd_one (H.out 2 rfl))) fun a w21 H hA hG => ?_
 replace H : Fr _ _ _ (.box sb 156 [(.map (some pb)), v18, v2, .int .i64 g] :: mapN Try.prog 3 pb ((idM k) ++ [(k, ((upto k).length : Int))]) :: .row 3 v18 ((upto k) ++ [k]) :: .row 3 v2 u :: tl) := H
 refine list_end ?_
 refine hK14 _ _ ?_
 refine go_seq fun K22 hK22 => ?_
 refine region_list ?_
 refine q_list 0 6 [(44, v2)] [(0, pv sb), (7, iv ((upto k).length : Int)), (40, pv sb), (44, v2), (45, iv ((upto k).length : Int))] (TT ∧ TT ∧ TT ∧ (0 < Try.prog.cellsOf 27) ∧ (CellOk (On w21) sb (0 + 2) (v2)) ∧ TT ∧ True) hA H ⟨tv, tv, tv, by decide +kernel, by exact box_cell H 0 rfl 2, tv, tv⟩ fun a w23 hA H hG => ?_
 refine list_at 6 ?_; refine q_lit 6 46 27 1 #[(0, .tmp 45)] 3 [(0, iv ((upto k).length : Int))] [.int .i64 ((upto k).length : Int)] [(0, pv sb), (7, iv ((upto k).length : Int)), (40, pv sb), (44, v2)] hA H fun b24 a w25 H hA hG hge_b24 => ?_
 clear hge_b24
 refine list_at 7 ?_; refine q_push 7 47 (.tmp 44) (.tmp 46) 4 0 b24 1 1 v2 u [((upto k).length : Int)] [.int .i64 ((upto k).length : Int)] [(0, pv sb), (7, iv ((upto k).length : Int)), (40, pv sb)] hA H Try.E27 rfl rfl (by exact (RowRd.single (α := Int) rfl)) rfl (by simp only [List.length_cons, List.length_nil, List.length_append]; omega) (by decide) fun v26 a w27 H hA hG => ?_
 replace H : Fr _ _ _ (.box sb 156 [(.map (some pb)), v18, v2, .int .i64 g] :: mapN Try.prog 3 pb ((idM k) ++ [(k, ((upto k).length : Int))]) :: .row 3 v18 ((upto k) ++ [k]) :: .row 3 v26 (u ++ [((upto k).length : Int)]) :: tl) := H.drop 0
 refine q_list 8 2 [] [(0, pv sb), (7, iv ((upto k).length : Int)), (47, v26), (49, .pointer (some ⟨sb, 0 + 2, none⟩))] (TT ∧ (0 < Try.prog.cellsOf 27) ∧ True) hA H ⟨tv, by decide +kernel, tv⟩ fun a w28 hA H hG => ?_
 refine list_at 10 ?_; refine q_store 10 27 (.tmp 49) (.tmp 47) 0 sb (0 + 2) 156 [(.map (some pb)), v18, v2, .int .i64 g] [v26] [(.map (some pb)), v18, v26, .int .i64 g] v26 [(0, pv sb), (7, iv ((upto k).length : Int))] hA H rfl (one_cells (rd_one (H.out 3 rfl))) (Nat.le_of_ble_eq_true (by kernel_rfl)) rfl (fun v hv => by simp only [List.mem_cons, List.not_mem_nil, or_false] at hv; rcases hv with rfl; exact (rd_one (H.out 3 rfl))) fun a w29 H hA hG => ?_
 replace H : Fr _ _ _ (.box sb 156 [(.map (some pb)), v18, v26, .int .i64 g] :: mapN Try.prog 3 pb ((idM k) ++ [(k, ((upto k).length : Int))]) :: .row 3 v18 ((upto k) ++ [k]) :: .row 3 v26 (u ++ [((upto k).length : Int)]) :: tl) := H
 refine list_end ?_
 refine hK22 _ _ ?_
 refine go_seq fun K30 hK30 => ?_
 refine region_list ?_
 refine q_list 0 7 [(53, iv g)] [(7, iv ((upto k).length : Int)), (54, iv (g + 1)), (56, .pointer (some ⟨sb, 0 + 3, none⟩))] (TT ∧ TT ∧ (0 < Try.prog.cellsOf 3) ∧ (CellOk (On w29) sb (0 + 3) (.int .i64 g)) ∧ (InR .i64 (g + 1)) ∧ TT ∧ (0 < Try.prog.cellsOf 3) ∧ True) hA H ⟨tv, tv, by decide +kernel, by exact box_cell H 0 rfl 3, ⟨by omega, by omega⟩, tv, by decide +kernel, tv⟩ fun a w31 hA H hG => ?_
 refine list_at 7 ?_; refine q_store 7 3 (.tmp 56) (.tmp 54) 0 sb (0 + 3) 156 [(.map (some pb)), v18, v26, .int .i64 g] [.int .i64 (g + 1)] [(.map (some pb)), v18, v26, .int .i64 (g + 1)] (.int .i64 (g + 1)) [(7, iv ((upto k).length : Int))] hA H rfl rfl (Nat.le_of_ble_eq_true (by kernel_rfl)) rfl (fun v hv => by simp only [List.mem_cons, List.not_mem_nil, or_false] at hv; rcases hv with rfl; exact rfl) fun a w32 H hA hG => ?_
 replace H : Fr _ _ _ (.box sb 156 [(.map (some pb)), v18, v26, .int .i64 (g + 1)] :: mapN Try.prog 3 pb ((idM k) ++ [(k, ((upto k).length : Int))]) :: .row 3 v18 ((upto k) ++ [k]) :: .row 3 v26 (u ++ [((upto k).length : Int)]) :: tl) := H
 refine list_end ?_
 refine hK30 _ _ ?_
 refine go_seq fun K33 hK33 => ?_
 refine q_reg [] [(4, iv ((upto k).length : Int))] (TT ∧ TT ∧ True) hA H ⟨tv, tv, tv⟩ fun a w34 hA H hG => ?_
 refine hK33 _ _ ?_
 refine go_ret_ ?_
 refine ret_one (P := Try.prog) (fn := Try.f135) (R := (fun e w' => ∃ q, e = .returned q ∧ q = .int .i64 k ∧ ∃ S v1 v2, Fr o w' S (setR sb pb v1 v2 (k + 1) (u ++ [k]) (g + 1) tl))) 4 (.int .i64 ((upto k).length : Int)) hA ?_
 rw [hupk] at H ⊢; rw [idM_snoc hk0, ← upto_succ hk0] at H
 exact ⟨_, rfl, rfl, _, _, _, H⟩
theorem root_any (sb pb : Nat) (v1 v2 : Value) (k : Int) (u : List Int) (g : Int) (o : Orig) (S : Stab) (tl : List Res) (x y : Int) (w : World) (hH : Fr o w S (setR sb pb v1 v2 k u g tl)) (hk0 : 0 ≤ k) (hkm : k ≤ 1000000) (hul : (u.length : Int) = k) (hok : OkUp u) (hgm : -1000000 ≤ g ∧ g ≤ 1000000) (hx0 : 0 ≤ x) (hx1 : x < k) (hxy : rootL u x = y) :
 Calls Try.prog 136 [.pointer (some ⟨sb, 0, none⟩), .int .i64 x].toArray w (fun e w' => ∃ q, e = .returned q ∧ q = .int .i64 y ∧ (∃ S u', ((u'.length : Int) = k ∧ OkUp u' ∧ ∀ j, 0 ≤ j → j < k → rootL u' j = rootL u j) ∧ Fr o w' S (setR sb pb v1 v2 k u' g tl))) := by
 have hupl := upto_len k
 refine enter Try.f136 41 Try.func136 fun a hA => ?_
 replace hA := env_sub [(0, pv sb), (1, iv x)] hA
 have H := hH
 refine go_seq fun K1 hK1 => ?_
 refine q_reg [] [(0, pv sb), (1, iv x)] (TT ∧ True) hA H ⟨tv, tv⟩ fun a w2 hA H hG => ?_
 refine hK1 _ _ ?_
 refine go_seq fun K3 hK3 => ?_
 refine go_block 0 ?_
 refine go_loop_ (Int × List Int) (fun x_ a W => (fun (i : Int) (c : List Int) => EnvOk 41 a (keepEnv [(0, pv sb), (1, iv i)]) ∧ (∃ S, Fr o W S (.box sb 156 [(.map (some pb)), v1, v2, .int .i64 g] :: mapN Try.prog 3 pb (idM k) :: .row 3 v1 (upto k) :: .row 3 v2 c :: tl)) ∧ 0 ≤ i ∧ i < k ∧ (c.length : Int) = k ∧ OkUp c ∧ (∀ j, 0 ≤ j → j < k → rootL c j = rootL u j) ∧ rootL c i = rootL u x) x_.1 x_.2) (fun x_ => (fun (i : Int) (c : List Int) => i.toNat) x_.1 x_.2) (x, u) ?_ (fun x_ a w5 hI => ?_)
 · (try dsimp only); exact ⟨env_sub _ hA, ⟨_, H⟩, hx0, hx1, hul, hok, fun j _ _ => rfl, rfl⟩
 obtain ⟨i, c⟩ := x_
 obtain ⟨hA, ⟨S, H⟩, hi0, hi1, hcl, hco, hcr, hcx⟩ := hI
 try dsimp only at hi0 hi1 hcl hco hcr hcx
 replace H : Fr _ _ _ (.box sb 156 [(.map (some pb)), v1, v2, .int .i64 g] :: mapN Try.prog 3 pb (idM k) :: .row 3 v1 (upto k) :: .row 3 v2 c :: tl) := H
 have hy := okUp_at hco hi0 (show i < (c.length : Int) by omega)
 have hz := okUp_at hco hy.1 (show c.getD i.toNat 0 < (c.length : Int) by omega)
 refine go_seq fun K6 hK6 => ?_
 refine go_seq fun K7 hK7 => ?_
 refine q_reg [(8, v2), (11, iv (c.getD i.toNat 0))] [(0, pv sb), (1, iv i), (13, .bool (!decide ((c.getD i.toNat 0) = i)))] (TT ∧ TT ∧ (0 < Try.prog.cellsOf 27) ∧ (CellOk (On w5) sb (0 + 2) (v2)) ∧ TT ∧ ((Try.prog.info? 3).isSome = true ∧ IdxOk v2 i) ∧ (CellOk (On w5) (hdB v2) (hdO v2 + i.toNat * 1) (.int .i64 (c.getD i.toNat 0))) ∧ TT ∧ TT ∧ True) hA H ⟨tv, tv, by decide +kernel, by exact box_cell H 0 rfl 2, tv, ⟨by kernel_rfl, by exact idx_ok (H.out 3 rfl) (by omega) (by omega)⟩, by exact cell_flat (i := i) (H.out 3 rfl) (by omega) (by omega) 0 0, tv, tv, tv⟩ fun a w8 hA H hG => ?_
 refine hK7 _ _ ?_
 refine go_cond hA (.tmp 13) (!decide ((c.getD i.toNat 0) = i)) (fun hb9 => ?_) (fun hb9 => ?_)
 · have hhb9 := of_decide_eq_false (nT hb9)
   refine go_skip ?_
   refine hK6 _ _ ?_
   refine go_block 1 ?_
   refine go_seq fun K10 hK10 => ?_
   have H0 := H
   have hM0 := H0.keeps none (.inl rfl)
   refine region_mix (But w8 none) [0, 1, 2, 3, 4, 5, 6, 7, 8, 9, 10, 11, 12, 13, 14, 15, 16, 17] 20 ?_
   replace H := H.drawn; have hD := But.drew w8 none
   generalize ({ w8 with drawn := w8.drawn + 1 } : World) = w11 at H hD ⊢
   refine m_take (n := 2) [0, 1, 2, 3, 4, 5, 6, 7, 8, 9, 10, 11, 12, 13, 14, 15, 16, 17] #[true, true, true, true, true, true, true, true, true, true, true, true, true, true, true, true, true, true, false, false] [(17, v2), (22, v2), (26, v2), (29, iv (c.getD i.toNat 0)), (31, iv (c.getD (c.getD i.toNat 0).toNat 0))] [(0, pv sb), (1, iv i), (17, v2), (18, iv i), (31, iv (c.getD (c.getD i.toNat 0).toNat 0))] (TT ∧ TT ∧ (0 < Try.prog.cellsOf 27) ∧ (CellOk (But w8 none) sb (0 + 2) (v2)) ∧ TT ∧ TT ∧ TT ∧ (0 < Try.prog.cellsOf 27) ∧ (CellOk (But w8 none) sb (0 + 2) (v2)) ∧ TT ∧ TT ∧ (0 < Try.prog.cellsOf 27) ∧ (CellOk (But w8 none) sb (0 + 2) (v2)) ∧ TT ∧ ((Try.prog.info? 3).isSome = true ∧ IdxOk v2 i) ∧ (CellOk (But w8 none) (hdB v2) (hdO v2 + i.toNat * 1) (.int .i64 (c.getD i.toNat 0))) ∧ ((Try.prog.info? 3).isSome = true ∧ IdxOk v2 (c.getD i.toNat 0)) ∧ (CellOk (But w8 none) (hdB v2) (hdO v2 + (c.getD i.toNat 0).toNat * 1) (.int .i64 (c.getD (c.getD i.toNat 0).toNat 0))) ∧ True) hA hD ⟨tv, tv, by decide +kernel, by exact box_cellC (box_atC H0 none 0 rfl (fun e => by cases e)) 2, tv, tv, tv, by decide +kernel, by exact box_cellC (box_atC H0 none 0 rfl (fun e => by cases e)) 2, tv, tv, by decide +kernel, by exact box_cellC (box_atC H0 none 0 rfl (fun e => by cases e)) 2, tv, ⟨by kernel_rfl, by exact idx_ok (H.out 3 rfl) (by omega) (by omega)⟩, by exact row_cellF (i := i) H0 3 rfl (row_but H0 none 3 rfl (fun b hb e => by cases e)) (by omega) (by omega) 0 0, ⟨by kernel_rfl, by exact idx_ok (H.out 3 rfl) (by omega) (by omega)⟩, by exact row_cellF (i := (c.getD i.toNat 0)) H0 3 rfl (row_but H0 none 3 rfl (fun b hb e => by cases e)) (by omega) (by omega) 0 0, tv⟩ fun a hA => ?_
   refine m_one 18 ?_; refine q_one 18 [] [(0, pv sb), (1, iv i), (31, iv (c.getD (c.getD i.toNat 0).toNat 0)), (32, .pointer (some ⟨hdB v2, hdO v2 + i.toNat * 1, none⟩))] (((Try.prog.info? 3).isSome = true ∧ IdxOk v2 i) ∧ True) hA H ⟨⟨by kernel_rfl, by exact idx_ok (H.out 3 rfl) (by omega) (by omega)⟩, tv⟩ fun a w12 H hA hG => ?_
   refine ⟨fun h => absurd h (by decide), ?_⟩
   refine m_one 19 ?_; refine q_storeRow 19 3 (.tmp 32) (.tmp 31) 3 (i.toNat * 1) 3 v2 c (c.set i.toNat (c.getD (c.getD i.toNat 0).toNat 0)) [.int .i64 (c.getD (c.getD i.toNat 0).toNat 0)] (.int .i64 (c.getD (c.getD i.toNat 0).toNat 0)) [(0, pv sb), (1, iv i)] hA H rfl rfl (Nat.zero_lt_succ _) (row_room (by omega) (by omega)) (List.length_set ..) (fun xs hxs => rd_setI (by omega) hxs) (fun v hv => by simp only [List.mem_cons, List.not_mem_nil, or_false] at hv; rcases hv with rfl; exact rfl) fun a w13 H hA hG => ?_
   replace H : Fr _ _ _ (.box sb 156 [(.map (some pb)), v1, v2, .int .i64 g] :: mapN Try.prog 3 pb (idM k) :: .row 3 v1 (upto k) :: .row 3 v2 (c.set i.toNat (c.getD (c.getD i.toNat 0).toNat 0)) :: tl) := H
   refine ⟨fun h => absurd h (by decide), ?_⟩
   refine m_end ?_
   refine hK10 _ _ ?_
   have hsl : (c.set i.toNat (c.getD (c.getD i.toNat 0).toNat 0)).length = c.length := List.length_set ..
   refine q_reg [(36, v2), (39, iv ((c.set i.toNat (c.getD (c.getD i.toNat 0).toNat 0)).getD i.toNat 0))] [(0, pv sb), (1, iv ((c.set i.toNat (c.getD (c.getD i.toNat 0).toNat 0)).getD i.toNat 0))] (TT ∧ TT ∧ (0 < Try.prog.cellsOf 27) ∧ (CellOk (On w13) sb (0 + 2) (v2)) ∧ TT ∧ ((Try.prog.info? 3).isSome = true ∧ IdxOk v2 i) ∧ (CellOk (On w13) (hdB v2) (hdO v2 + i.toNat * 1) (.int .i64 ((c.set i.toNat (c.getD (c.getD i.toNat 0).toNat 0)).getD i.toNat 0))) ∧ TT ∧ True) hA H ⟨tv, tv, by decide +kernel, by exact box_cell H 0 rfl 2, tv, ⟨by kernel_rfl, by exact idx_ok (H.out 3 rfl) (by omega) (by omega)⟩, by exact cell_flat (i := i) (H.out 3 rfl) (by omega) (by omega) 0 0, tv, tv⟩ fun a w14 hA H hG => ?_
   refine ⟨(((c.set i.toNat (c.getD (c.getD i.toNat 0).toNat 0)).getD i.toNat 0), c.set i.toNat (c.getD (c.getD i.toNat 0).toNat 0)), ⟨env_sub _ hA, ⟨_, H⟩, ?_⟩, ?_⟩
   · (try dsimp only); exact root_step hco hi0 (by omega) hcl hcr hcx
   (try dsimp only); rw [getD_set (by omega), if_pos rfl]; have hm3 := hhb9; omega
 have hhb9 := of_decide_eq_true (nF hb9)
 refine go_exit 0 ?_
 refine hK3 _ _ ?_
 refine go_seq fun K15 hK15 => ?_
 refine q_reg [] [(4, iv i)] (TT ∧ TT ∧ True) hA H ⟨tv, tv, tv⟩ fun a w16 hA H hG => ?_
 refine hK15 _ _ ?_
 refine go_ret_ ?_
 refine ret_one (P := Try.prog) (fn := Try.f136) (R := (fun e w' => ∃ q, e = .returned q ∧ q = .int .i64 y ∧ (∃ S u', ((u'.length : Int) = k ∧ OkUp u' ∧ ∀ j, 0 ≤ j → j < k → rootL u' j = rootL u j) ∧ Fr o w' S (setR sb pb v1 v2 k u' g tl)))) 4 (.int .i64 i) hA ?_
 exact ⟨_, rfl, by rw [← hxy, ← hcx, rootL_root hco hi0 (by omega) (by have := hhb9; omega)], _, c, ⟨hcl, hco, hcr⟩, H⟩
theorem Try.E56 : Elem Try.prog 56 29 2 48 := elem_of (z := .agg #[.slice none 0 0, .slice none 0 0]) Try.underlying56 (by kernel_rfl) rfl (by decide)
theorem Try.E67 : Elem Try.prog 67 27 1 24 := elem_of (z := .slice none 0 0) Try.underlying67 (by kernel_rfl) rfl (by decide)
theorem Try.E22 : Elem Try.prog 22 99 2 16 := elem_of (z := .agg #[.int .i64 0, .int .i64 0]) Try.underlying22 (by kernel_rfl) rfl (by decide)
theorem Try.E69 : Elem Try.prog 69 92 3 24 := elem_of (z := .agg #[.int .i64 0, .int .i64 0, .int .i64 0]) Try.underlying69 (by kernel_rfl) rfl (by decide)
end Go.Proofs.Ytahonnlgkmimlaa
namespace Go.Proofs.Ytahonnlgkmimlaa
open Go.RowKit Go.Proofs.Ytahonnlgkmimlaa.Deep
section
variable {n : Int} {E : List (Int × Int)} {V L : List Int}
theorem nodup_le {l m : List Int} (h : l.Nodup) (hs : ∀ x ∈ l, x ∈ m) : l.length ≤ m.length := h.length_le_of_subset hs
theorem sum_le {f : Int → Nat} {b : Nat} (h : ∀ x, f x ≤ b) : ∀ l : List Int, (l.map f).sum ≤ l.length * b
 | [] => by simp
 | x :: l => by
   have := sum_le h l
   have := h x
   simp only [List.map_cons, List.sum_cons, List.length_cons, Nat.add_mul]
   omega
theorem dartsL_le (E : List (Int × Int)) (x : Int) : ∀ L : List Int, (dartsL E L x).length ≤ 2 * L.length
 | [] => by simp [dartsL]
 | e :: L => by
   have := dartsL_le E x L
   have h : dartsL E (e :: L) x = dartsL E [e] x ++ dartsL E L x := by rw [← dartsL_app]; rfl
   have h2 : (dartsL E [e] x).length ≤ 2 := by
     show (List.flatMap _ [_]).length ≤ 2
     rw [List.flatMap_cons, List.flatMap_nil, List.append_nil, dartsFrom_0, List.length_append]
     split <;> split <;> simp
   rw [h, List.length_append, List.length_cons]
   omega
theorem find_ex (hp : partE n E V L = 0) : ∃ s', Deep.Roots (dartsL E L) (headE E) V Deep.St.zero s' ∧ Deep.Bd s' ∧ Deep.Rest (grE E L) s' ∧ ∀ v ∈ V, s'.met v ≠ 0 := by
 obtain ⟨hr, hVr, hL, hV⟩ := part_iff.1 hp
 have hr9 := rightE_0 hr
 have hl9 := rises_len hL (by omega)
 have hv9 := rises_len hVr (by omega)
 have HD := darts_ok (E := E) hL
 have h0 : (-1 : Int) ∉ (grE E L).L := fun h => by have := ((rises_iff.1 hL).2 _ h).1; omega
 have hU : ∀ v d, d ∈ dartsL E L v → headE E d ∈ V := fun v d hd => by
   obtain ⟨h1, h2⟩ := HD.mem v d hd
   exact hV _ h1 _ (h2.right)
 obtain ⟨s', hs⟩ := roots_ex HD h0 V hU V St.zero (fun _ h => h) rest_zero
 obtain ⟨R, hm, _⟩ := roots_rest HD h0 hs rest_zero
 obtain ⟨i1, i2⟩ := roots_ins hU hs (fun _ h => h) (Int.le_refl _)
 have ha : Deep.ahead (dartsL E L) V St.zero ≤ V.length * (2 * L.length) := sum_le (fun x => by
   split
   · exact dartsL_le E x L
   exact Nat.zero_le _) V
 have hlf : Deep.left V St.zero ≤ V.length := List.length_filter_le _ _
 have hb1 : V.length * (2 * L.length) ≤ 1024 * 2048 := Nat.mul_le_mul (by omega) (by omega)
 have hin : ∀ f ∈ s'.blk.flatten, f ∈ L := fun f hf => by
   obtain ⟨b, hb, hfb⟩ := List.mem_flatten.1 hf
   exact ((good_of R.glob.good b hb).1 f hfb).1
 have hnd : s'.blk.flatten.Nodup := by have := R.glob.nd; rw [R.stk, List.append_nil] at this; exact this
 have z1 : (St.zero).ins.length = 0 := rfl
 have z2 : (St.zero).cnt = 0 := rfl
 refine ⟨s', hs, ⟨by omega, ?_, ?_, by omega⟩, R, hm⟩
 · rw [R.stk, List.append_nil]; have := nodup_le hnd hin; omega
 rw [R.stk, List.append_nil]; intro f hf; have := (rises_iff.1 hL).2 f (hin f hf); omega
end
end Go.Proofs.Ytahonnlgkmimlaa
namespace Go.Proofs.Ytahonnlgkmimlaa
open Go.RowKit Go.Proofs.Ytahonnlgkmimlaa.Deep
section
variable {n : Int} {E : List (Int × Int)} {V L : List Int}
theorem mem_touchL {M : List Int} {x : Int} : x ∈ touchL E M n ↔ (0 ≤ x ∧ x < n) ∧ ∃ e ∈ M, touchP E e x := by
 unfold touchL; rw [List.mem_filter, mem_upto, touchB_iff]
theorem class_mem {e f : Int} : f ∈ classL E V L e ↔ f ∈ L ∧ togB E V L e f = true := by unfold classL; rw [List.mem_filter]
theorem class_all (hp : partE n E V L = 0) {e : Int} (he : e ∈ L) : (∀ f ∈ classL E V L e, classL E V L f = classL E V L e) ∧
   ((classL E V L e = [e] ∧ (grE E L).lp e) ∨ ((∀ f ∈ classL E V L e, ¬ (grE E L).lp f) ∧ ∀ f ∈ classL E V L e, ∀ g ∈ classL E V L e, ∀ z, Tog (grE E L) z f g)) := by
 obtain ⟨_, _, hL, hV⟩ := part_iff.1 hp
 obtain ⟨s, _, _, R, hs⟩ := find_ex hp
 rcases R.cov (eA E e) (hs _ (hV e he _ (.inl rfl))) e he (.inl rfl) with h | h
 · rw [class_lp hp he h.1]
   exact ⟨fun f hf => by rw [List.mem_singleton.1 hf]; exact class_lp hp he h.1, .inl ⟨rfl, h.1⟩⟩
 obtain ⟨b, hb, heb⟩ := List.mem_flatten.1 h
 have hc := class_blk hp R hs hb heb
 obtain ⟨g1, g2⟩ := good_of R.glob.good b hb
 rw [hc]
 refine ⟨fun f hf => class_blk hp R hs hb (mem_sortL.1 hf), .inr ⟨fun f hf => (g1 f (mem_sortL.1 hf)).2, fun f hf g hg z => g2 f (mem_sortL.1 hf) g (mem_sortL.1 hg) z⟩⟩
theorem class_tog (hp : partE n E V L = 0) {e f : Int} (he : e ∈ L) (hf : f ∈ L) (le : ¬ (grE E L).lp e) (lf : ¬ (grE E L).lp f) (h : ∀ z, Tog (grE E L) z e f) : f ∈ classL E V L e := by
 refine class_mem.2 ⟨hf, togB_iff.2 fun v _ => ?_⟩
 by_cases hne : e = f
 · unfold apartB; rw [if_pos hne]
 exact (apart_iff he hf hne le lf).2 (h v)
end
def hasIn (bs : List (List Int × List Int)) (v : Int) : List (List Int × List Int) := bs.filter fun b => decide (v ∈ b.1)
def cutsL (V : List Int) (bs : List (List Int × List Int)) : List Int := V.filter fun v => decide (1 < (hasIn bs v).length)
section
variable {n : Int} {E : List (Int × Int)} {V L : List Int}
theorem block_at (hp : partE n E V L = 0) {b : List Int × List Int} (hb : b ∈ blocksL n E V L) : ∃ e ∈ L, (classL E V L e).getD 0 0 = e ∧ b = (touchL E (classL E V L e) n, classL E V L e) := by
 obtain ⟨e, he, rfl⟩ := List.mem_map.1 hb
 obtain ⟨h1, h2⟩ := List.mem_filter.1 he
 exact ⟨e, h1, of_decide_eq_true h2, rfl⟩
theorem block_rises (hp : partE n E V L = 0) {b : List Int × List Int} (hb : b ∈ blocksL n E V L) : risesP b.1 n ∧ risesP b.2 (E.length : Int) ∧ (∀ x ∈ b.1, x ∈ V) ∧ (∀ e ∈ b.2, e ∈ L) := by
 obtain ⟨_, _, hL, hV⟩ := part_iff.1 hp
 obtain ⟨e, he, _, rfl⟩ := block_at hp hb
 refine ⟨touchL_rises, rises_sub ((rises_iff.1 hL).1.sublist List.filter_sublist) hL fun x hx => (class_mem.1 hx).1, fun x hx => ?_, fun x hx => (class_mem.1 hx).1⟩
 obtain ⟨_, g, hg, ht⟩ := mem_touchL.1 hx
 exact hV g (class_mem.1 hg).1 x ht
theorem blocks_len (n : Int) (E : List (Int × Int)) (V L : List Int) : (blocksL n E V L).length ≤ L.length := by
 unfold blocksL; rw [List.length_map]; exact List.length_filter_le _ _
end
def blocksE (n : Int) (E : List (Int × Int)) (V L : List Int) : List (List Int × List Int) := if partE n E V L ≠ 0 then [] else blocksL n E V L
def valAt (ins : List (Int × Value × List Int)) (k : Int) : List Int := match lastAt ins k with | some x => x.2 | none => []
theorem keys_len {ins : List (Int × Value × List Int)} {K : List Int} (hK : Asc K) (hKm : ∀ x, x ∈ K ↔ ∃ l, (x, l) ∈ ins) : K.length ≤ ins.length := by
 have h := nodup_le (asc_nodup hK) (m := ins.map fun q => q.1) fun x hx => by
   obtain ⟨l, hl⟩ := (hKm x).1 hx
   exact List.mem_map.2 ⟨_, hl, rfl⟩
 rwa [List.length_map] at h
theorem take_snoc {l : List Int} {i : Int} (h0 : 0 ≤ i) (h1 : i < (l.length : Int)) : l.take (i + 1).toNat = l.take i.toNat ++ [l.getD i.toNat 0] := by
 rw [show (i + 1).toNat = i.toNat + 1 by omega, List.take_add_one, List.getElem?_eq_getElem (by omega), List.getD_eq_getElem?_getD, List.getElem?_eq_getElem (by omega)]
 rfl
theorem blocks_val {n : Int} {E : List (Int × Int)} {V L : List Int} {s : St} {ins : List (Int × Value × List Int)} (hp : partE n E V L = 0) (R : Deep.Rest (grE E L) s) (hs : ∀ v ∈ V, s.met v ≠ 0) (hi : insOf ins = s.ins)
   {K : List Int} (hK : Asc K) (hKm : ∀ x, x ∈ K ↔ ∃ l, (x, l) ∈ ins) : K.map (fun k => (Lib.compact (sortL (endsL E (valAt ins k))), valAt ins k)) = blocksL n E V L := by
 refine blocks_eq hp R hs hK (fun k => ?_) fun k hk => ?_
 · rw [hKm, ← hi]
   constructor
   · rintro ⟨l, hl⟩; exact ⟨l.2, List.mem_map.2 ⟨_, hl, rfl⟩⟩
   rintro ⟨l, hl⟩
   obtain ⟨q, hq, e⟩ := List.mem_map.1 hl
   simp only [Prod.mk.injEq] at e
   exact ⟨q.2, by rw [← e.1]; exact hq⟩
 obtain ⟨l, hl⟩ := (hKm k).1 hk
 obtain ⟨x, hx⟩ := lastAt_some hl
 have hm := lastAt_mem hx
 rw [← hi]
 unfold valAt
 rw [hx]
 exact List.mem_map.2 ⟨_, hm, rfl⟩
theorem getD_mem {α : Type} {l : List α} {i : Nat} {d : α} (h : i < l.length) : l.getD i d ∈ l := by
 rw [List.getD_eq_getElem?_getD, List.getElem?_eq_getElem h]; exact List.getElem_mem h
theorem take_snocD {α : Type} {l : List α} {i : Int} {d : α} (h0 : 0 ≤ i) (h1 : i < (l.length : Int)) : l.take (i + 1).toNat = l.take i.toNat ++ [l.getD i.toNat d] := by
 rw [show (i + 1).toNat = i.toNat + 1 by omega, List.take_add_one, List.getElem?_eq_getElem (by omega), List.getD_eq_getElem?_getD, List.getElem?_eq_getElem (by omega)]
 rfl
theorem hasIn_snoc {bs : List (List Int × List Int)} {i x : Int} (h0 : 0 ≤ i) (h1 : i < (bs.length : Int)) : hasIn (bs.take (i + 1).toNat) x = hasIn (bs.take i.toNat) x ++ (if x ∈ (bs.getD i.toNat ([], [])).1 then [bs.getD i.toNat ([], [])] else []) := by
 unfold hasIn
 rw [take_snocD (d := ([], [])) h0 h1, List.filter_append, List.filter_cons]
 by_cases c : x ∈ (bs.getD i.toNat ([], [])).1
 · rw [if_pos c, if_pos (decide_eq_true c)]; rfl
 rw [if_neg c, if_neg (by rw [decide_eq_true_eq]; exact c)]; rfl
def aroundE (n : Int) (E : List (Int × Int)) (V L : List Int) (x : Int) : List (List Int × List Int) := if partE n E V L ≠ 0 then [] else hasIn (blocksL n E V L) x
def cntI (bs : List (List Int × List Int)) (v : Int) : Int := ((hasIn bs v).length : Int)
def cnt0 : Int → Int := fun _ => 0
theorem cntI_le (bs : List (List Int × List Int)) (v : Int) : 0 ≤ cntI bs v ∧ cntI bs v ≤ (bs.length : Int) := by
 have : (hasIn bs v).length ≤ bs.length := List.length_filter_le _ _
 unfold cntI; omega
theorem cntI_snoc {bs : List (List Int × List Int)} {i x : Int} (h0 : 0 ≤ i) (h1 : i < (bs.length : Int)) : cntI (bs.take (i + 1).toNat) x = cntI (bs.take i.toNat) x + (if x ∈ (bs.getD i.toNat ([], [])).1 then 1 else 0) := by
 unfold cntI
 rw [hasIn_snoc h0 h1, List.length_append]
 split <;> simp
theorem cnt_step {c : Int → Int} {l : List Int} {k : Int} {f : Int → Int} (h0 : 0 ≤ k) (h1 : k < (l.length : Int)) (hn : l.Nodup) (h : ∀ v, f v = c v + (if v ∈ l.take k.toNat then 1 else 0)) (v : Int) :
   Deep.upd f (l.getD k.toNat 0) (f (l.getD k.toNat 0) + 1) v = c v + (if v ∈ l.take (k + 1).toNat then 1 else 0) := by
 have hs := take_snoc h0 h1
 have hnot : l.getD k.toNat 0 ∉ l.take k.toNat := by
   have h2 : (l.take (k + 1).toNat).Nodup := hn.sublist (List.take_sublist _ _)
   rw [hs, List.nodup_append] at h2
   exact fun hx => h2.2.2 _ hx _ (by simp) rfl
 rw [hs]
 by_cases e : v = l.getD k.toNat 0
 · rw [e, Deep.upd_same, h, if_neg hnot, if_pos (by simp)]; omega
 rw [Deep.upd_ne _ _ e, h]
 simp only [List.mem_append, List.mem_singleton, e, or_false]
theorem cuts_upto {n : Int} {E : List (Int × Int)} {V L : List Int} (hp : partE n E V L = 0) : (upto n).filter (fun v => decide (1 < cntI (blocksL n E V L) v)) = cutsL V (blocksL n E V L) := by
 obtain ⟨_, hV, _, _⟩ := part_iff.1 hp
 refine asc_ext ((upto_asc n).sublist List.filter_sublist) ((rises_iff.1 hV).1.sublist List.filter_sublist) fun x => ?_
 unfold cutsL
 rw [List.mem_filter, List.mem_filter, decide_eq_true_eq, decide_eq_true_eq, mem_upto]
 have e : 1 < cntI (blocksL n E V L) x ↔ 1 < (hasIn (blocksL n E V L) x).length := by unfold cntI; omega
 rw [e]
 refine ⟨fun h => ⟨?_, h.2⟩, fun h => ⟨(rises_iff.1 hV).2 x h.1, h.2⟩⟩
 have hpos : 0 < (hasIn (blocksL n E V L) x).length := by omega
 have hm := List.getElem_mem hpos
 obtain ⟨h1, h2⟩ := List.mem_filter.1 hm
 exact (block_rises hp h1).2.2.1 x (of_decide_eq_true h2)
def cutsE (n : Int) (E : List (Int × Int)) (V L : List Int) : List Int := if partE n E V L ≠ 0 then [] else cutsL V (blocksL n E V L)
def solidB (n : Int) (E : List (Int × Int)) (V L : List Int) : Bool := (decide (partE n E V L = 0) && decide (((blocksE n E V L).length : Int) = 1)) && (decide (((blocksE n E V L).getD (0 : Int).toNat ([], [])).1 = V) && decide (((blocksE n E V L).getD (0 : Int).toNat ([], [])).2 = L))
section
variable {n : Int} {E : List (Int × Int)} {V L : List Int} {a but : Int}
def repsL (n : Int) (E : List (Int × Int)) (V L M : List Int) : List (List Int × List Int) := (M.filter fun e => decide ((classL E V L e).getD 0 0 = e)).map fun e => (touchL E (classL E V L e) n, classL E V L e)
end
theorem groups_any (sb pb : Nat) (v1 v2 : Value) (k : Int) (u : List Int) (g : Int) (o : Orig) (S : Stab) (tl : List Res) (w : World) (hH : Fr o w S (setR sb pb v1 v2 k u g tl)) (hk0 : 0 ≤ k) (hkm : k ≤ 1000000) (hul : (u.length : Int) = k) (hok : OkUp u) (hgm : -1000000 ≤ g ∧ g ≤ 1000000) :
 Calls Try.prog 112 [.pointer (some ⟨sb, 0, none⟩)].toArray w (fun e w' => ∃ q, e = .returned q ∧ ∃ S, Fr o w' S (.row 27 q (groupsR (rootL u) k) :: tl)) := by
 have hupl := upto_len k
 have hok0 := hok
 refine enter Try.f112 58 Try.func112 fun a hA => ?_
 replace hA := env_sub [(0, pv sb)] hA
 have H := hH
 refine go_seq fun K1 hK1 => ?_
 refine q_reg [] [(0, pv sb)] (TT ∧ True) hA H ⟨tv, tv⟩ fun a w2 hA H hG => ?_
 refine hK1 _ _ ?_
 refine go_seq fun K3 hK3 => ?_
 refine go_seq fun K4 hK4 => ?_
 refine region_list ?_
 refine q_list 0 1 [] [(0, pv sb), (8, pv sb)] (TT ∧ True) hA H ⟨tv, tv⟩ fun a w5 hA H hG => ?_
 refine list_at 1 ?_; refine q_ptrNil 1 9 132 132 (.tmp 8) sb (0) (.const ((.pointer none))) [(0, pv sb)] hA (fun a hA => ?_) ⟨_, Try.underlying132⟩
 refine list_end ?_
 refine hK4 _ _ ?_
 refine go_cond hA (.tmp 9) false (fun h => by cases h) (fun _ => ?_)
 refine go_skip ?_
 refine hK3 _ _ ?_
 refine go_seq fun K7 hK7 => ?_
 refine q_reg [] [(0, pv sb), (3, (.slice none 0 0))] (TT ∧ True) hA H ⟨tv, tv⟩ fun a w8 hA H hG => ?_
 refine hK7 _ _ ?_
 refine go_seq fun K9 hK9 => ?_
 refine region_list ?_
 refine q_list 0 5 [(13, v1), (14, iv ((upto k).length : Int))] [(0, pv sb), (3, (.slice none 0 0)), (14, iv ((upto k).length : Int))] (TT ∧ TT ∧ (0 < Try.prog.cellsOf 27) ∧ (CellOk (On w8) sb (0 + 1) (v1)) ∧ (LenOk v1 ((upto k).length : Int)) ∧ True) hA H ⟨tv, tv, by decide +kernel, by exact box_cell H 0 rfl 1, by exact len_ok (H.out 2 rfl), tv⟩ fun a w10 hA H hG => ?_
 refine list_at 5 ?_; refine q_makeA 5 15 27 (.tmp 14) 3 ((upto k).length : Int) (.int .i64 0) [(0, pv sb), (3, (.slice none 0 0))] hA H Try.underlying27 (make_info (by kernel_rfl)) (by omega) (by omega) fun b11 a w12 H hA hG hge_b11 => ?_
 clear hge_b11
 replace H : Fr _ _ _ (.box b11 3 (arrV ((upto k).length : Int) fun j => .int .i64 (cnt0 j)) :: .box sb 156 [(.map (some pb)), v1, v2, .int .i64 g] :: mapN Try.prog 3 pb (idM k) :: .row 3 v1 (upto k) :: .row 3 v2 u :: tl) := H
 refine q_list 6 1 [] [(0, pv sb), (3, (.slice none 0 0)), (4, (.slice (some ⟨b11, 0, none⟩) ((upto k).length : Int).toNat ((upto k).length : Int).toNat))] (TT ∧ True) hA H ⟨tv, tv⟩ fun a w13 hA H hG => ?_
 refine list_end ?_
 refine hK9 _ _ ?_
 refine go_seq fun K14 hK14 => ?_
 refine go_seq fun K15 hK15 => ?_
 refine q_reg [(19, v1), (20, iv ((upto k).length : Int))] [(0, pv sb), (3, (.slice none 0 0)), (4, (.slice (some ⟨b11, 0, none⟩) ((upto k).length : Int).toNat ((upto k).length : Int).toNat)), (19, v1), (20, iv ((upto k).length : Int)), (21, iv 0)] (TT ∧ TT ∧ (0 < Try.prog.cellsOf 27) ∧ (CellOk (On w13) sb (0 + 1) (v1)) ∧ (LenOk v1 ((upto k).length : Int)) ∧ TT ∧ True) hA H ⟨tv, tv, by decide +kernel, by exact box_cell H 1 rfl 1, by exact len_ok (H.out 3 rfl), tv, tv⟩ fun a w16 hA H hG => ?_
 refine hK15 _ _ ?_
 refine go_block 0 ?_
 replace H := H.newRow (α := Raw) 27
 replace H := Fr.order [.row 27 (.slice none 0 0) ([] : List Raw), .box b11 3 (arrV ((upto k).length : Int) fun j => .int .i64 (cnt0 j)), .box sb 156 [(.map (some pb)), v1, v2, .int .i64 g], mapN Try.prog 3 pb (idM k), .row 3 v1 (upto k), .row 3 v2 u] tl H [2, 3, 4, 5, 0, 1] (by show List.Perm _ (List.range 6); decide)
 replace H : Fr _ _ _ (.box sb 156 [(.map (some pb)), v1, v2, .int .i64 g] :: mapN Try.prog 3 pb (idM k) :: .row 3 v1 (upto k) :: .row 3 v2 u :: .row 27 (.slice none 0 0) ([] : List Raw) :: .box b11 3 (arrV ((upto k).length : Int) fun j => .int .i64 (cnt0 j)) :: tl) := H
 replace H := rows_new ([.box sb 156 [(.map (some pb)), v1, v2, .int .i64 g], mapN Try.prog 3 pb (idM k), .row 3 v1 (upto k), .row 3 v2 u, .row 27 (.slice none 0 0) ([] : List Raw), .box b11 3 (arrV ((upto k).length : Int) fun j => .int .i64 (cnt0 j))] ++ tl) H 0
 refine go_loop_ (Int × Int × Value × (Int → Value) × (Int → List Int) × (Int → Int) × List Int) (fun x_ a W => (fun (i : Int) (n : Int) (vo : Value) (vs : (Int → Value)) (ls : (Int → List Int)) (gf : (Int → Int)) (c : List Int) => EnvOk 58 a (keepEnv [(0, pv sb), (3, vo), (4, (.slice (some ⟨b11, 0, none⟩) ((upto k).length : Int).toNat ((upto k).length : Int).toNat)), (19, v1), (20, iv ((upto k).length : Int)), (21, iv i)]) ∧ (∃ S, Fr o W S (.box sb 156 [(.map (some pb)), v1, v2, .int .i64 g] :: mapN Try.prog 3 pb (idM k) :: .row 3 v1 (upto k) :: .row 3 v2 c :: .row 27 vo (rawsT n vs) :: .box b11 3 (arrV ((upto k).length : Int) fun j => .int .i64 (gf j)) :: (tl ++ rowsT n vs ls))) ∧ 0 ≤ i ∧ i ≤ k ∧ 0 ≤ n ∧ n ≤ i ∧ ((c.length : Int) = k ∧ OkUp c ∧ ∀ j, 0 ≤ j → j < k → rootL c j = rootL u j) ∧ GrpI (rootL u) i n gf ls) x_.1 x_.2.1 x_.2.2.1 x_.2.2.2.1 x_.2.2.2.2.1 x_.2.2.2.2.2.1 x_.2.2.2.2.2.2) (fun x_ => (fun (i : Int) (n : Int) (vo : Value) (vs : (Int → Value)) (ls : (Int → List Int)) (gf : (Int → Int)) (c : List Int) => (k - i).toNat) x_.1 x_.2.1 x_.2.2.1 x_.2.2.2.1 x_.2.2.2.2.1 x_.2.2.2.2.2.1 x_.2.2.2.2.2.2) (0, 0, .slice none 0 0, (fun _ => .slice none 0 0), (fun _ => []), cnt0, u) ?_ (fun x_ a w18 hI => ?_)
 · (try dsimp only); exact ⟨env_sub _ hA, ⟨_, H⟩, by omega, by omega, by omega, by omega, ⟨hul, hok, fun _ _ _ => rfl⟩, grp_start _ _ _⟩
 obtain ⟨i, n, vo, vs, ls, gf, c⟩ := x_
 obtain ⟨hA, ⟨S, H⟩, h0, h0b, hn0, hn1, ⟨hul, hok, hcr⟩, hg⟩ := hI
 try dsimp only at h0 h0b hn0 hn1 hul hok hcr hg
 replace H : Fr _ _ _ (.box sb 156 [(.map (some pb)), v1, v2, .int .i64 g] :: mapN Try.prog 3 pb (idM k) :: .row 3 v1 (upto k) :: .row 3 v2 c :: .row 27 vo (rawsT n vs) :: .box b11 3 (arrV ((upto k).length : Int) fun j => .int .i64 (gf j)) :: (tl ++ rowsT n vs ls)) := H
 refine go_seq fun K19 hK19 => ?_
 refine q_reg [] [(0, pv sb), (3, vo), (4, (.slice (some ⟨b11, 0, none⟩) ((upto k).length : Int).toNat ((upto k).length : Int).toNat)), (19, v1), (20, iv ((upto k).length : Int)), (21, iv i), (22, .bool (decide (i < ((upto k).length : Int))))] (TT ∧ True) hA H ⟨tv, tv⟩ fun a w20 hA H hG => ?_
 refine hK19 _ _ ?_
 refine go_seq fun K21 hK21 => ?_
 refine go_cond hA (.tmp 22) (decide (i < ((upto k).length : Int))) (fun hb22 => ?_) (fun hb22 => ?_)
 · have hhb22 := of_decide_eq_true hb22
   refine go_skip ?_
   refine hK21 _ _ ?_
   refine go_seq fun K23 hK23 => ?_
   refine go_block 1 ?_
   refine go_seq fun K24 hK24 => ?_
   refine q_reg [(25, iv ((upto k).getD i.toNat 0))] [(0, pv sb), (3, vo), (4, (.slice (some ⟨b11, 0, none⟩) ((upto k).length : Int).toNat ((upto k).length : Int).toNat)), (5, iv i), (6, iv ((upto k).getD i.toNat 0)), (19, v1), (20, iv ((upto k).length : Int)), (21, iv i)] (TT ∧ ((Try.prog.info? 3).isSome = true ∧ IdxOk v1 i) ∧ (CellOk (On w20) (hdB v1) (hdO v1 + i.toNat * 1) (.int .i64 ((upto k).getD i.toNat 0))) ∧ TT ∧ TT ∧ True) hA H ⟨tv, ⟨by kernel_rfl, by exact idx_ok (H.out 2 rfl) (by omega) (by omega)⟩, by exact cell_flat (i := i) (H.out 2 rfl) (by omega) (by omega) 0 0, tv, tv, tv⟩ fun a w25 hA H hG => ?_
   refine hK24 _ _ ?_
   refine go_seq fun K26 hK26 => ?_
   have hxi : (upto k).getD i.toNat 0 = i := by rw [upto_getD (by omega)]; omega
   have hro0 := rootL_of hok0 (i := i) h0 (by omega)
   have hrl : ((rawsT n vs).length : Int) = n := by rw [rawsT_len]; omega
   refine region_list ?_
   refine q_list 0 2 [] [(0, pv sb), (3, vo), (4, (.slice (some ⟨b11, 0, none⟩) ((upto k).length : Int).toNat ((upto k).length : Int).toNat)), (5, iv i), (6, iv ((upto k).getD i.toNat 0)), (19, v1), (20, iv ((upto k).length : Int)), (21, iv i), (26, pv sb), (27, iv i)] (TT ∧ TT ∧ True) hA H ⟨tv, tv, tv⟩ fun a w27 hA H hG => ?_
   refine list_at 2 ?_; refine q_any 2 28 136 #[.tmp 26, .tmp 27] #[132, 3] [.pointer (some ⟨sb, 0, none⟩), .int .i64 i] _ [(0, pv sb), (3, vo), (4, (.slice (some ⟨b11, 0, none⟩) ((upto k).length : Int).toNat ((upto k).length : Int).toNat)), (5, iv i), (6, iv ((upto k).getD i.toNat 0)), (19, v1), (20, iv ((upto k).length : Int)), (21, iv i)] hA (root_any sb pb v1 v2 k c g o _ (.row 27 vo (rawsT n vs) :: .box b11 3 (arrV ((upto k).length : Int) fun j => .int .i64 (gf j)) :: (tl ++ rowsT n vs ls)) i (rootL u i) _ H (by omega) (by omega) (by omega) hok (by omega) (by omega) (by omega) (hcr i h0 (by omega))) fun v28 a w29 hR30 hA => ?_
   obtain ⟨rfl, S, q31u, ⟨hul, hok, hrt⟩, H⟩ := hR30
   replace H : Fr _ _ _ (.box sb 156 [(.map (some pb)), v1, v2, .int .i64 g] :: mapN Try.prog 3 pb (idM k) :: .row 3 v1 (upto k) :: .row 3 v2 q31u :: .row 27 vo (rawsT n vs) :: .box b11 3 (arrV ((upto k).length : Int) fun j => .int .i64 (gf j)) :: (tl ++ rowsT n vs ls)) := H
   refine q_list 3 1 [] [(0, pv sb), (3, vo), (4, (.slice (some ⟨b11, 0, none⟩) ((upto k).length : Int).toNat ((upto k).length : Int).toNat)), (5, iv i), (6, iv ((upto k).getD i.toNat 0)), (7, iv (rootL u i)), (19, v1), (20, iv ((upto k).length : Int)), (21, iv i)] (TT ∧ True) hA H ⟨tv, tv⟩ fun a w32 hA H hG => ?_
   refine list_end ?_
   refine hK26 _ _ ?_
   refine go_seq fun K33 hK33 => ?_
   refine go_seq fun K34 hK34 => ?_
   refine q_reg [] [(0, pv sb), (3, vo), (4, (.slice (some ⟨b11, 0, none⟩) ((upto k).length : Int).toNat ((upto k).length : Int).toNat)), (5, iv i), (6, iv ((upto k).getD i.toNat 0)), (7, iv (rootL u i)), (19, v1), (20, iv ((upto k).length : Int)), (21, iv i), (31, .bool (decide (rootL u i = i)))] (TT ∧ TT ∧ TT ∧ True) hA H ⟨tv, tv, tv, tv⟩ fun a w35 hA H hG => ?_
   refine hK34 _ _ ?_
   refine go_cond hA (.tmp 31) (decide (rootL u i = i)) (fun hb36 => ?_) (fun hb36 => ?_)
   · have hhb36 := of_decide_eq_true hb36
     refine go_seq fun K37 hK37 => ?_
     have hri : rootL u i = i := hhb36
     refine region_list ?_
     refine q_list 0 5 [(35, iv ((rawsT n vs).length : Int))] [(0, pv sb), (3, vo), (4, (.slice (some ⟨b11, 0, none⟩) ((upto k).length : Int).toNat ((upto k).length : Int).toNat)), (6, iv ((upto k).getD i.toNat 0)), (7, iv (rootL u i)), (19, v1), (20, iv ((upto k).length : Int)), (21, iv i), (35, iv ((rawsT n vs).length : Int)), (36, .pointer (some ⟨b11, 0 + i.toNat * 1, none⟩))] (TT ∧ TT ∧ TT ∧ (LenOk vo ((rawsT n vs).length : Int)) ∧ ((Try.prog.info? 3).isSome = true ∧ IdxOk (.slice (some ⟨b11, 0, none⟩) ((upto k).length : Int).toNat ((upto k).length : Int).toNat) i) ∧ True) hA H ⟨tv, tv, tv, by exact len_ok (H.out 4 rfl), ⟨by kernel_rfl, arr_idx (by omega) (by omega)⟩, tv⟩ fun a w38 hA H hG => ?_
     refine list_at 5 ?_; refine q_store 5 3 (.tmp 36) (.tmp 35) 5 b11 (0 + i.toNat * 1) 3 ((arrV ((upto k).length : Int) fun j => .int .i64 (gf j))) [.int .i64 ((rawsT n vs).length : Int)] ((arrV ((upto k).length : Int) fun j => .int .i64 ((Deep.upd gf i ((rawsT n vs).length : Int)) j))) (.int .i64 ((rawsT n vs).length : Int)) [(0, pv sb), (3, vo), (4, (.slice (some ⟨b11, 0, none⟩) ((upto k).length : Int).toNat ((upto k).length : Int).toNat)), (6, iv ((upto k).getD i.toNat 0)), (7, iv (rootL u i)), (19, v1), (20, iv ((upto k).length : Int)), (21, iv i)] hA H rfl rfl (arr_room (by omega) (by omega)) (arr_set (by omega) (by omega) (congrArg (Value.int .i64) (Deep.upd_same _ _ _)) (fun j hj => congrArg (Value.int .i64) (Deep.upd_ne _ _ hj))) (fun v hv => by simp only [List.mem_cons, List.not_mem_nil, or_false] at hv; rcases hv with rfl; exact rfl) fun a w39 H hA hG => ?_
     replace H : Fr _ _ _ (.box sb 156 [(.map (some pb)), v1, v2, .int .i64 g] :: mapN Try.prog 3 pb (idM k) :: .row 3 v1 (upto k) :: .row 3 v2 q31u :: .row 27 vo (rawsT n vs) :: .box b11 3 (arrV ((upto k).length : Int) fun j => .int .i64 ((Deep.upd gf i ((rawsT n vs).length : Int)) j)) :: (tl ++ rowsT n vs ls)) := H
     refine list_end ?_
     refine hK37 _ _ ?_
     refine region_list ?_
     refine q_list 0 1 [] [(0, pv sb), (4, (.slice (some ⟨b11, 0, none⟩) ((upto k).length : Int).toNat ((upto k).length : Int).toNat)), (6, iv ((upto k).getD i.toNat 0)), (7, iv (rootL u i)), (19, v1), (20, iv ((upto k).length : Int)), (21, iv i), (37, vo)] (TT ∧ True) hA H ⟨tv, tv⟩ fun a w40 hA H hG => ?_
     refine list_at 1 ?_; refine q_lit 1 38 67 1 #[(0, .const ((.slice none 0 0)))] 27 [(0, (.slice none 0 0))] [(.slice none 0 0)] [(0, pv sb), (4, (.slice (some ⟨b11, 0, none⟩) ((upto k).length : Int).toNat ((upto k).length : Int).toNat)), (6, iv ((upto k).getD i.toNat 0)), (7, iv (rootL u i)), (19, v1), (20, iv ((upto k).length : Int)), (21, iv i), (37, vo)] hA H fun b41 a w42 H hA hG hge_b41 => ?_
     clear hge_b41
     refine list_at 2 ?_; refine q_push 2 39 (.tmp 37) (.tmp 38) 5 0 b41 1 1 vo (rawsT n vs) [⟨(.slice none 0 0)⟩] [(.slice none 0 0)] [(0, pv sb), (4, (.slice (some ⟨b11, 0, none⟩) ((upto k).length : Int).toNat ((upto k).length : Int).toNat)), (6, iv ((upto k).getD i.toNat 0)), (7, iv (rootL u i)), (19, v1), (20, iv ((upto k).length : Int)), (21, iv i)] hA H Try.E67 rfl rfl (by exact (RowRd.single (α := Raw) ⟨rfl, rfl⟩)) rfl (by simp only [List.length_cons, List.length_nil, List.length_append]; omega) (by decide) fun v43 a w44 H hA hG => ?_
     replace H : Fr _ _ _ (.box sb 156 [(.map (some pb)), v1, v2, .int .i64 g] :: mapN Try.prog 3 pb (idM k) :: .row 3 v1 (upto k) :: .row 3 v2 q31u :: .row 27 v43 ((rawsT n vs) ++ [⟨(.slice none 0 0)⟩]) :: .box b11 3 (arrV ((upto k).length : Int) fun j => .int .i64 ((Deep.upd gf i ((rawsT n vs).length : Int)) j)) :: (tl ++ rowsT n vs ls)) := H.drop 0
     refine q_list 3 1 [] [(0, pv sb), (3, v43), (4, (.slice (some ⟨b11, 0, none⟩) ((upto k).length : Int).toNat ((upto k).length : Int).toNat)), (6, iv ((upto k).getD i.toNat 0)), (7, iv (rootL u i)), (19, v1), (20, iv ((upto k).length : Int)), (21, iv i)] (TT ∧ True) hA H ⟨tv, tv⟩ fun a w45 hA H hG => ?_
     refine list_end ?_
     refine hK33 _ _ ?_
     rw [hrl, rawsT_more hn0] at H
     replace H := rows_more ([.box sb 156 [(.map (some pb)), v1, v2, .int .i64 g], mapN Try.prog 3 pb (idM k), .row 3 v1 (upto k), .row 3 v2 q31u, .row 27 v43 (rawsT (n + 1) (updF vs n (.slice none 0 0))), .box b11 3 (arrV ((upto k).length : Int) fun j => .int .i64 ((Deep.upd gf i n) j))] ++ tl) H hn0
     replace H : Fr _ _ _ (.box sb 156 [(.map (some pb)), v1, v2, .int .i64 g] :: mapN Try.prog 3 pb (idM k) :: .row 3 v1 (upto k) :: .row 3 v2 q31u :: .row 27 v43 (rawsT (n + 1) (updF vs n (.slice none 0 0))) :: .box b11 3 (arrV ((upto k).length : Int) fun j => .int .i64 ((Deep.upd gf i n) j)) :: (tl ++ rowsT (n + 1) (updF vs n (.slice none 0 0)) (updF ls n []))) := H
     have han : (Deep.upd gf i n) (rootL u i) = n := by rw [hri, Deep.upd_same]
     have hrl2 : ((rawsT (n + 1) (updF vs n (.slice none 0 0))).length : Int) = (n + 1) := by rw [rawsT_len]; omega
     replace H := rows_out (a := (Deep.upd gf i n) (rootL u i)) ([.box sb 156 [(.map (some pb)), v1, v2, .int .i64 g], mapN Try.prog 3 pb (idM k), .row 3 v1 (upto k), .row 3 v2 q31u, .row 27 v43 (rawsT (n + 1) (updF vs n (.slice none 0 0))), .box b11 3 (arrV ((upto k).length : Int) fun j => .int .i64 ((Deep.upd gf i n) j))] ++ tl) H (by omega) (by omega)
     replace H : Fr _ _ _ (.row 3 ((updF vs n (.slice none 0 0)) ((Deep.upd gf i n) (rootL u i))) ((updF ls n []) ((Deep.upd gf i n) (rootL u i))) :: .box sb 156 [(.map (some pb)), v1, v2, .int .i64 g] :: mapN Try.prog 3 pb (idM k) :: .row 3 v1 (upto k) :: .row 3 v2 q31u :: .row 27 v43 (rawsT (n + 1) (updF vs n (.slice none 0 0))) :: .box b11 3 (arrV ((upto k).length : Int) fun j => .int .i64 ((Deep.upd gf i n) j)) :: (tl ++ (rowsT (n + 1) (updF vs n (.slice none 0 0)) (updF ls n [])).eraseIdx ((Deep.upd gf i n) (rootL u i)).toNat)) := H
     have hll9 : ((updF ls n []) ((Deep.upd gf i n) (rootL u i))).length ≤ 1000000 := by rw [han, updF_same]; simp
     have H0 := H
     have hM0 := H0.keeps (((updF vs n (.slice none 0 0)) ((Deep.upd gf i n) (rootL u i))).ownBlock) (.inr ⟨_, List.mem_of_getElem? (i := 0) rfl, rfl⟩)
     refine region_mix (But w45 (((updF vs n (.slice none 0 0)) ((Deep.upd gf i n) (rootL u i))).ownBlock)) [0, 1, 2, 3, 4, 5, 6, 7, 8, 9, 10, 11, 12, 13, 14] 17 ?_
     replace H := H.drawn; have hD := But.drew w45 (((updF vs n (.slice none 0 0)) ((Deep.upd gf i n) (rootL u i))).ownBlock)
     generalize ({ w45 with drawn := w45.drawn + 1 } : World) = w46 at H hD ⊢
     refine m_take (n := 4) [0, 1, 2, 3, 4, 5, 6, 7, 8, 9, 10, 11, 12] #[true, true, true, true, true, true, true, true, true, true, true, true, true, false, false, false, false] [(44, iv ((Deep.upd gf i n) (rootL u i))), (49, iv ((Deep.upd gf i n) (rootL u i))), (51, ((updF vs n (.slice none 0 0)) ((Deep.upd gf i n) (rootL u i))))] [(0, pv sb), (3, v43), (4, (.slice (some ⟨b11, 0, none⟩) ((upto k).length : Int).toNat ((upto k).length : Int).toNat)), (19, v1), (20, iv ((upto k).length : Int)), (21, iv i), (40, v43), (44, iv ((Deep.upd gf i n) (rootL u i))), (51, ((updF vs n (.slice none 0 0)) ((Deep.upd gf i n) (rootL u i)))), (52, iv ((upto k).getD i.toNat 0))] (TT ∧ TT ∧ TT ∧ ((Try.prog.info? 3).isSome = true ∧ IdxOk (.slice (some ⟨b11, 0, none⟩) ((upto k).length : Int).toNat ((upto k).length : Int).toNat) (rootL u i)) ∧ (CellOk (But w45 (((updF vs n (.slice none 0 0)) ((Deep.upd gf i n) (rootL u i))).ownBlock)) b11 (0 + (rootL u i).toNat * 1) (.int .i64 ((Deep.upd gf i n) (rootL u i)))) ∧ TT ∧ TT ∧ TT ∧ ((Try.prog.info? 3).isSome = true ∧ IdxOk (.slice (some ⟨b11, 0, none⟩) ((upto k).length : Int).toNat ((upto k).length : Int).toNat) (rootL u i)) ∧ (CellOk (But w45 (((updF vs n (.slice none 0 0)) ((Deep.upd gf i n) (rootL u i))).ownBlock)) b11 (0 + (rootL u i).toNat * 1) (.int .i64 ((Deep.upd gf i n) (rootL u i)))) ∧ ((Try.prog.info? 27).isSome = true ∧ IdxOk v43 ((Deep.upd gf i n) (rootL u i))) ∧ (CellOk (But w45 (((updF vs n (.slice none 0 0)) ((Deep.upd gf i n) (rootL u i))).ownBlock)) (hdB v43) (hdO v43 + ((Deep.upd gf i n) (rootL u i)).toNat * 1) (((updF vs n (.slice none 0 0)) ((Deep.upd gf i n) (rootL u i))))) ∧ TT ∧ True) hA hD ⟨tv, tv, tv, ⟨by kernel_rfl, arr_idx (by omega) (by omega)⟩, by exact arr_cellC (box_atC H0 (((updF vs n (.slice none 0 0)) ((Deep.upd gf i n) (rootL u i))).ownBlock) 6 rfl (H0.apart 6 0 (by decide) rfl rfl rfl)) (by omega) (by omega), tv, tv, tv, ⟨by kernel_rfl, arr_idx (by omega) (by omega)⟩, by exact arr_cellC (box_atC H0 (((updF vs n (.slice none 0 0)) ((Deep.upd gf i n) (rootL u i))).ownBlock) 6 rfl (H0.apart 6 0 (by decide) rfl rfl rfl)) (by omega) (by omega), ⟨by kernel_rfl, by exact idx_ok (H.out 5 rfl) (by omega) (by omega)⟩, by exact row_cellR H0 5 rfl (row_but H0 (((updF vs n (.slice none 0 0)) ((Deep.upd gf i n) (rootL u i))).ownBlock) 5 rfl (fun b hb e => H0.apart 5 0 (by decide) rfl rfl hb e.symm)) (by omega) (by omega) (rawsT_get (by omega) (by omega)), tv, tv⟩ fun a hA => ?_
     refine m_one 13 ?_; refine q_lit 13 53 27 1 #[(0, .tmp 52)] 3 [(0, iv ((upto k).getD i.toNat 0))] [.int .i64 ((upto k).getD i.toNat 0)] [(0, pv sb), (3, v43), (4, (.slice (some ⟨b11, 0, none⟩) ((upto k).length : Int).toNat ((upto k).length : Int).toNat)), (19, v1), (20, iv ((upto k).length : Int)), (21, iv i), (40, v43), (44, iv ((Deep.upd gf i n) (rootL u i))), (51, ((updF vs n (.slice none 0 0)) ((Deep.upd gf i n) (rootL u i))))] hA H fun b47 a w48 H hA hG hge_b47 => ?_
     replace hge_b47 := Nat.le_trans hD.1 hge_b47
     replace hD := hD.below hG
     refine ⟨fun _ => hD, ?_⟩
     refine m_one 14 ?_; refine q_push 14 54 (.tmp 51) (.tmp 53) 1 0 b47 1 1 ((updF vs n (.slice none 0 0)) ((Deep.upd gf i n) (rootL u i))) ((updF ls n []) ((Deep.upd gf i n) (rootL u i))) [((upto k).getD i.toNat 0)] [.int .i64 ((upto k).getD i.toNat 0)] [(0, pv sb), (3, v43), (4, (.slice (some ⟨b11, 0, none⟩) ((upto k).length : Int).toNat ((upto k).length : Int).toNat)), (19, v1), (20, iv ((upto k).length : Int)), (21, iv i), (40, v43), (44, iv ((Deep.upd gf i n) (rootL u i)))] hA H Try.E27 rfl rfl (by exact (RowRd.single (α := Int) rfl)) rfl (by simp only [List.length_cons, List.length_nil, List.length_append]; omega) (by decide) fun v49 a w50 H hA hG => ?_
     replace H : Fr _ _ _ (.row 3 v49 (((updF ls n []) ((Deep.upd gf i n) (rootL u i))) ++ [((upto k).getD i.toNat 0)]) :: .box sb 156 [(.map (some pb)), v1, v2, .int .i64 g] :: mapN Try.prog 3 pb (idM k) :: .row 3 v1 (upto k) :: .row 3 v2 q31u :: .row 27 v43 (rawsT (n + 1) (updF vs n (.slice none 0 0))) :: .box b11 3 (arrV ((upto k).length : Int) fun j => .int .i64 ((Deep.upd gf i n) j)) :: (tl ++ (rowsT (n + 1) (updF vs n (.slice none 0 0)) (updF ls n [])).eraseIdx ((Deep.upd gf i n) (rootL u i)).toNat)) := H.drop 0
     replace hD := hD.grown hG (fun b hb => .inl hb.symm)
     refine ⟨fun _ => hD, ?_⟩
     refine m_one 15 ?_; refine q_one 15 [] [(0, pv sb), (3, v43), (4, (.slice (some ⟨b11, 0, none⟩) ((upto k).length : Int).toNat ((upto k).length : Int).toNat)), (19, v1), (20, iv ((upto k).length : Int)), (21, iv i), (54, v49), (55, .pointer (some ⟨hdB v43, hdO v43 + ((Deep.upd gf i n) (rootL u i)).toNat * 1, none⟩))] (((Try.prog.info? 27).isSome = true ∧ IdxOk v43 ((Deep.upd gf i n) (rootL u i))) ∧ True) hA H ⟨⟨by kernel_rfl, by exact idx_ok (H.out 5 rfl) (by omega) (by omega)⟩, tv⟩ fun a w51 H hA hG => ?_
     refine ⟨fun h => absurd h (by decide), ?_⟩
     refine m_one 16 ?_; refine q_storeRow 16 27 (.tmp 55) (.tmp 54) 5 (((Deep.upd gf i n) (rootL u i)).toNat * 1) 27 v43 (rawsT (n + 1) (updF vs n (.slice none 0 0))) ((rawsT (n + 1) (updF vs n (.slice none 0 0))).set ((Deep.upd gf i n) (rootL u i)).toNat (⟨v49⟩)) [v49] v49 [(0, pv sb), (3, v43), (4, (.slice (some ⟨b11, 0, none⟩) ((upto k).length : Int).toNat ((upto k).length : Int).toNat)), (19, v1), (20, iv ((upto k).length : Int)), (21, iv i)] hA H rfl (one_cells (rd_one (H.out 0 rfl))) (Nat.zero_lt_succ _) (row_room (by omega) (by omega)) (List.length_set ..) (fun xs hxs => rd_setR (by omega) (rd_one (H.out 0 rfl)) hxs) (fun v hv => by simp only [List.mem_cons, List.not_mem_nil, or_false] at hv; rcases hv with rfl; exact (rd_one (H.out 0 rfl))) fun a w52 H hA hG => ?_
     replace H : Fr _ _ _ (.row 3 v49 (((updF ls n []) ((Deep.upd gf i n) (rootL u i))) ++ [((upto k).getD i.toNat 0)]) :: .box sb 156 [(.map (some pb)), v1, v2, .int .i64 g] :: mapN Try.prog 3 pb (idM k) :: .row 3 v1 (upto k) :: .row 3 v2 q31u :: .row 27 v43 ((rawsT (n + 1) (updF vs n (.slice none 0 0))).set ((Deep.upd gf i n) (rootL u i)).toNat (⟨v49⟩)) :: .box b11 3 (arrV ((upto k).length : Int) fun j => .int .i64 ((Deep.upd gf i n) j)) :: (tl ++ (rowsT (n + 1) (updF vs n (.slice none 0 0)) (updF ls n [])).eraseIdx ((Deep.upd gf i n) (rootL u i)).toNat)) := H
     refine ⟨fun h => absurd h (by decide), ?_⟩
     refine m_end ?_
     refine hK23 _ _ ?_
     refine q_reg [] [(0, pv sb), (3, v43), (4, (.slice (some ⟨b11, 0, none⟩) ((upto k).length : Int).toNat ((upto k).length : Int).toNat)), (19, v1), (20, iv ((upto k).length : Int)), (21, iv (i + 1))] ((InR .i64 (i + 1)) ∧ TT ∧ True) hA H ⟨⟨by omega, by omega⟩, tv, tv⟩ fun a w53 hA H hG => ?_
     replace H := rows_in (a := (Deep.upd gf i n) (rootL u i)) ([.box sb 156 [(.map (some pb)), v1, v2, .int .i64 g], mapN Try.prog 3 pb (idM k), .row 3 v1 (upto k), .row 3 v2 q31u, .row 27 v43 ((rawsT (n + 1) (updF vs n (.slice none 0 0))).set ((Deep.upd gf i n) (rootL u i)).toNat (⟨v49⟩)), .box b11 3 (arrV ((upto k).length : Int) fun j => .int .i64 ((Deep.upd gf i n) j))] ++ tl) H (by omega) (by omega)
     rw [rawsT_set (by omega) (by omega), hxi] at H
     replace H : Fr _ _ _ (.box sb 156 [(.map (some pb)), v1, v2, .int .i64 g] :: mapN Try.prog 3 pb (idM k) :: .row 3 v1 (upto k) :: .row 3 v2 q31u :: .row 27 v43 (rawsT (n + 1) (updF (updF vs n (.slice none 0 0)) ((Deep.upd gf i n) (rootL u i)) v49)) :: .box b11 3 (arrV ((upto k).length : Int) fun j => .int .i64 ((Deep.upd gf i n) j)) :: (tl ++ rowsT (n + 1) (updF (updF vs n (.slice none 0 0)) ((Deep.upd gf i n) (rootL u i)) v49) (updF (updF ls n []) ((Deep.upd gf i n) (rootL u i)) ((updF ls n []) ((Deep.upd gf i n) (rootL u i)) ++ [i])))) := H
     refine ⟨(i + 1, (n + 1), v43, updF (updF vs n (.slice none 0 0)) ((Deep.upd gf i n) (rootL u i)) v49, updF (updF ls n []) ((Deep.upd gf i n) (rootL u i)) ((updF ls n []) ((Deep.upd gf i n) (rootL u i)) ++ [i]), (Deep.upd gf i n), q31u), ⟨env_sub _ hA, ⟨_, H⟩, ?_⟩, ?_⟩
     · (try dsimp only); exact ⟨by omega, by omega, by omega, by omega, ⟨hul, hok, fun j j0 j1 => by rw [hrt j j0 j1]; exact hcr j j0 j1⟩, grp_new2 hg h0 (fun j j0 j1 => by have := rootL_of hok0 j0 (show j < (u.length : Int) by omega); omega) hri han⟩
     (try dsimp only); omega
   have hhb36 := of_decide_eq_false hb36
   refine go_skip ?_
   refine hK33 _ _ ?_
   have hri : ¬ rootL u i = i := hhb36
   replace H : Fr _ _ _ (.box sb 156 [(.map (some pb)), v1, v2, .int .i64 g] :: mapN Try.prog 3 pb (idM k) :: .row 3 v1 (upto k) :: .row 3 v2 q31u :: .row 27 vo (rawsT n vs) :: .box b11 3 (arrV ((upto k).length : Int) fun j => .int .i64 (gf j)) :: (tl ++ rowsT n vs ls)) := H
   obtain ⟨ha1, ha2, _⟩ := hg.at_ _ (rootsTo_mem hro0.1 (by omega) (rootL_idem hok0 h0 (by omega)))
   have hrl2 : ((rawsT n vs).length : Int) = n := by rw [rawsT_len]; omega
   replace H := rows_out (a := gf (rootL u i)) ([.box sb 156 [(.map (some pb)), v1, v2, .int .i64 g], mapN Try.prog 3 pb (idM k), .row 3 v1 (upto k), .row 3 v2 q31u, .row 27 vo (rawsT n vs), .box b11 3 (arrV ((upto k).length : Int) fun j => .int .i64 (gf j))] ++ tl) H (by omega) (by omega)
   replace H : Fr _ _ _ (.row 3 (vs (gf (rootL u i))) (ls (gf (rootL u i))) :: .box sb 156 [(.map (some pb)), v1, v2, .int .i64 g] :: mapN Try.prog 3 pb (idM k) :: .row 3 v1 (upto k) :: .row 3 v2 q31u :: .row 27 vo (rawsT n vs) :: .box b11 3 (arrV ((upto k).length : Int) fun j => .int .i64 (gf j)) :: (tl ++ (rowsT n vs ls).eraseIdx (gf (rootL u i)).toNat)) := H
   have hll9 : (ls (gf (rootL u i))).length ≤ 1000000 := by rw [hg.row _ ha1 ha2]; have := List.length_filter_le (fun j => decide (rootL u j = (rootsTo (rootL u) i).getD (gf (rootL u i)).toNat 0)) (upto i); rw [upto_len] at this; omega
   have H0 := H
   have hM0 := H0.keeps ((vs (gf (rootL u i))).ownBlock) (.inr ⟨_, List.mem_of_getElem? (i := 0) rfl, rfl⟩)
   refine region_mix (But w35 ((vs (gf (rootL u i))).ownBlock)) [0, 1, 2, 3, 4, 5, 6, 7, 8, 9, 10, 11, 12, 13, 14] 17 ?_
   replace H := H.drawn; have hD := But.drew w35 ((vs (gf (rootL u i))).ownBlock)
   generalize ({ w35 with drawn := w35.drawn + 1 } : World) = w54 at H hD ⊢
   refine m_take (n := 4) [0, 1, 2, 3, 4, 5, 6, 7, 8, 9, 10, 11, 12] #[true, true, true, true, true, true, true, true, true, true, true, true, true, false, false, false, false] [(44, iv (gf (rootL u i))), (49, iv (gf (rootL u i))), (51, (vs (gf (rootL u i))))] [(0, pv sb), (3, vo), (4, (.slice (some ⟨b11, 0, none⟩) ((upto k).length : Int).toNat ((upto k).length : Int).toNat)), (19, v1), (20, iv ((upto k).length : Int)), (21, iv i), (40, vo), (44, iv (gf (rootL u i))), (51, (vs (gf (rootL u i)))), (52, iv ((upto k).getD i.toNat 0))] (TT ∧ TT ∧ TT ∧ ((Try.prog.info? 3).isSome = true ∧ IdxOk (.slice (some ⟨b11, 0, none⟩) ((upto k).length : Int).toNat ((upto k).length : Int).toNat) (rootL u i)) ∧ (CellOk (But w35 ((vs (gf (rootL u i))).ownBlock)) b11 (0 + (rootL u i).toNat * 1) (.int .i64 (gf (rootL u i)))) ∧ TT ∧ TT ∧ TT ∧ ((Try.prog.info? 3).isSome = true ∧ IdxOk (.slice (some ⟨b11, 0, none⟩) ((upto k).length : Int).toNat ((upto k).length : Int).toNat) (rootL u i)) ∧ (CellOk (But w35 ((vs (gf (rootL u i))).ownBlock)) b11 (0 + (rootL u i).toNat * 1) (.int .i64 (gf (rootL u i)))) ∧ ((Try.prog.info? 27).isSome = true ∧ IdxOk vo (gf (rootL u i))) ∧ (CellOk (But w35 ((vs (gf (rootL u i))).ownBlock)) (hdB vo) (hdO vo + (gf (rootL u i)).toNat * 1) ((vs (gf (rootL u i))))) ∧ TT ∧ True) hA hD ⟨tv, tv, tv, ⟨by kernel_rfl, arr_idx (by omega) (by omega)⟩, by exact arr_cellC (box_atC H0 ((vs (gf (rootL u i))).ownBlock) 6 rfl (H0.apart 6 0 (by decide) rfl rfl rfl)) (by omega) (by omega), tv, tv, tv, ⟨by kernel_rfl, arr_idx (by omega) (by omega)⟩, by exact arr_cellC (box_atC H0 ((vs (gf (rootL u i))).ownBlock) 6 rfl (H0.apart 6 0 (by decide) rfl rfl rfl)) (by omega) (by omega), ⟨by kernel_rfl, by exact idx_ok (H.out 5 rfl) (by omega) (by omega)⟩, by exact row_cellR H0 5 rfl (row_but H0 ((vs (gf (rootL u i))).ownBlock) 5 rfl (fun b hb e => H0.apart 5 0 (by decide) rfl rfl hb e.symm)) (by omega) (by omega) (rawsT_get (by omega) (by omega)), tv, tv⟩ fun a hA => ?_
   refine m_one 13 ?_; refine q_lit 13 53 27 1 #[(0, .tmp 52)] 3 [(0, iv ((upto k).getD i.toNat 0))] [.int .i64 ((upto k).getD i.toNat 0)] [(0, pv sb), (3, vo), (4, (.slice (some ⟨b11, 0, none⟩) ((upto k).length : Int).toNat ((upto k).length : Int).toNat)), (19, v1), (20, iv ((upto k).length : Int)), (21, iv i), (40, vo), (44, iv (gf (rootL u i))), (51, (vs (gf (rootL u i))))] hA H fun b55 a w56 H hA hG hge_b55 => ?_
   replace hge_b55 := Nat.le_trans hD.1 hge_b55
   replace hD := hD.below hG
   refine ⟨fun _ => hD, ?_⟩
   refine m_one 14 ?_; refine q_push 14 54 (.tmp 51) (.tmp 53) 1 0 b55 1 1 (vs (gf (rootL u i))) (ls (gf (rootL u i))) [((upto k).getD i.toNat 0)] [.int .i64 ((upto k).getD i.toNat 0)] [(0, pv sb), (3, vo), (4, (.slice (some ⟨b11, 0, none⟩) ((upto k).length : Int).toNat ((upto k).length : Int).toNat)), (19, v1), (20, iv ((upto k).length : Int)), (21, iv i), (40, vo), (44, iv (gf (rootL u i)))] hA H Try.E27 rfl rfl (by exact (RowRd.single (α := Int) rfl)) rfl (by simp only [List.length_cons, List.length_nil, List.length_append]; omega) (by decide) fun v57 a w58 H hA hG => ?_
   replace H : Fr _ _ _ (.row 3 v57 ((ls (gf (rootL u i))) ++ [((upto k).getD i.toNat 0)]) :: .box sb 156 [(.map (some pb)), v1, v2, .int .i64 g] :: mapN Try.prog 3 pb (idM k) :: .row 3 v1 (upto k) :: .row 3 v2 q31u :: .row 27 vo (rawsT n vs) :: .box b11 3 (arrV ((upto k).length : Int) fun j => .int .i64 (gf j)) :: (tl ++ (rowsT n vs ls).eraseIdx (gf (rootL u i)).toNat)) := H.drop 0
   replace hD := hD.grown hG (fun b hb => .inl hb.symm)
   refine ⟨fun _ => hD, ?_⟩
   refine m_one 15 ?_; refine q_one 15 [] [(0, pv sb), (3, vo), (4, (.slice (some ⟨b11, 0, none⟩) ((upto k).length : Int).toNat ((upto k).length : Int).toNat)), (19, v1), (20, iv ((upto k).length : Int)), (21, iv i), (54, v57), (55, .pointer (some ⟨hdB vo, hdO vo + (gf (rootL u i)).toNat * 1, none⟩))] (((Try.prog.info? 27).isSome = true ∧ IdxOk vo (gf (rootL u i))) ∧ True) hA H ⟨⟨by kernel_rfl, by exact idx_ok (H.out 5 rfl) (by omega) (by omega)⟩, tv⟩ fun a w59 H hA hG => ?_
   refine ⟨fun h => absurd h (by decide), ?_⟩
   refine m_one 16 ?_; refine q_storeRow 16 27 (.tmp 55) (.tmp 54) 5 ((gf (rootL u i)).toNat * 1) 27 vo (rawsT n vs) ((rawsT n vs).set (gf (rootL u i)).toNat (⟨v57⟩)) [v57] v57 [(0, pv sb), (3, vo), (4, (.slice (some ⟨b11, 0, none⟩) ((upto k).length : Int).toNat ((upto k).length : Int).toNat)), (19, v1), (20, iv ((upto k).length : Int)), (21, iv i)] hA H rfl (one_cells (rd_one (H.out 0 rfl))) (Nat.zero_lt_succ _) (row_room (by omega) (by omega)) (List.length_set ..) (fun xs hxs => rd_setR (by omega) (rd_one (H.out 0 rfl)) hxs) (fun v hv => by simp only [List.mem_cons, List.not_mem_nil, or_false] at hv; rcases hv with rfl; exact (rd_one (H.out 0 rfl))) fun a w60 H hA hG => ?_
   replace H : Fr _ _ _ (.row 3 v57 ((ls (gf (rootL u i))) ++ [((upto k).getD i.toNat 0)]) :: .box sb 156 [(.map (some pb)), v1, v2, .int .i64 g] :: mapN Try.prog 3 pb (idM k) :: .row 3 v1 (upto k) :: .row 3 v2 q31u :: .row 27 vo ((rawsT n vs).set (gf (rootL u i)).toNat (⟨v57⟩)) :: .box b11 3 (arrV ((upto k).length : Int) fun j => .int .i64 (gf j)) :: (tl ++ (rowsT n vs ls).eraseIdx (gf (rootL u i)).toNat)) := H
   refine ⟨fun h => absurd h (by decide), ?_⟩
   refine m_end ?_
   refine hK23 _ _ ?_
   refine q_reg [] [(0, pv sb), (3, vo), (4, (.slice (some ⟨b11, 0, none⟩) ((upto k).length : Int).toNat ((upto k).length : Int).toNat)), (19, v1), (20, iv ((upto k).length : Int)), (21, iv (i + 1))] ((InR .i64 (i + 1)) ∧ TT ∧ True) hA H ⟨⟨by omega, by omega⟩, tv, tv⟩ fun a w61 hA H hG => ?_
   replace H := rows_in (a := gf (rootL u i)) ([.box sb 156 [(.map (some pb)), v1, v2, .int .i64 g], mapN Try.prog 3 pb (idM k), .row 3 v1 (upto k), .row 3 v2 q31u, .row 27 vo ((rawsT n vs).set (gf (rootL u i)).toNat (⟨v57⟩)), .box b11 3 (arrV ((upto k).length : Int) fun j => .int .i64 (gf j))] ++ tl) H (by omega) (by omega)
   rw [rawsT_set (by omega) (by omega), hxi] at H
   replace H : Fr _ _ _ (.box sb 156 [(.map (some pb)), v1, v2, .int .i64 g] :: mapN Try.prog 3 pb (idM k) :: .row 3 v1 (upto k) :: .row 3 v2 q31u :: .row 27 vo (rawsT n (updF vs (gf (rootL u i)) v57)) :: .box b11 3 (arrV ((upto k).length : Int) fun j => .int .i64 (gf j)) :: (tl ++ rowsT n (updF vs (gf (rootL u i)) v57) (updF ls (gf (rootL u i)) (ls (gf (rootL u i)) ++ [i])))) := H
   refine ⟨(i + 1, n, vo, updF vs (gf (rootL u i)) v57, updF ls (gf (rootL u i)) (ls (gf (rootL u i)) ++ [i]), gf, q31u), ⟨env_sub _ hA, ⟨_, H⟩, ?_⟩, ?_⟩
   · (try dsimp only); exact ⟨by omega, by omega, by omega, by omega, ⟨hul, hok, fun j j0 j1 => by rw [hrt j j0 j1]; exact hcr j j0 j1⟩, grp_old hg h0 (rootsTo_mem hro0.1 (by omega) (rootL_idem hok0 h0 (by omega))) hri⟩
   (try dsimp only); omega
 have hhb22 := of_decide_eq_false hb22
 refine go_exit 0 ?_
 refine hK14 _ _ ?_
 refine go_seq fun K62 hK62 => ?_
 refine q_reg [] [(2, vo)] (TT ∧ TT ∧ True) hA H ⟨tv, tv, tv⟩ fun a w63 hA H hG => ?_
 refine hK62 _ _ ?_
 refine go_ret_ ?_
 refine ret_one (P := Try.prog) (fn := Try.f112) (R := (fun e w' => ∃ q, e = .returned q ∧ ∃ S, Fr o w' S (.row 27 q (groupsR (rootL u) k) :: tl))) 2 vo hA ?_
 rw [show i = k by omega] at hg
 obtain ⟨S, H⟩ := rows_still ([.box sb 156 [(.map (some pb)), v1, v2, .int .i64 g], mapN Try.prog 3 pb (idM k), .row 3 v1 (upto k), .row 3 v2 c, .row 27 vo (rawsT n vs), .box b11 3 (arrV ((upto k).length : Int) fun j => .int .i64 (gf j))] ++ tl) H 4 rfl
 rw [grp_end hg] at H
 replace H : Fr _ _ _ (.box sb 156 [(.map (some pb)), v1, v2, .int .i64 g] :: mapN Try.prog 3 pb (idM k) :: .row 3 v1 (upto k) :: .row 3 v2 c :: .row 27 vo (groupsR (rootL u) k) :: .box b11 3 (arrV ((upto k).length : Int) fun j => .int .i64 (gf j)) :: tl) := H
 replace H := H.drop 5
 replace H := H.drop 3
 replace H := H.drop 2
 replace H := H.drop 1
 replace H := H.drop 0
 exact ⟨_, rfl, _, H⟩
theorem add_any (sb pb : Nat) (v1 v2 : Value) (k : Int) (u : List Int) (g : Int) (o : Orig) (S : Stab) (tl : List Res) (w : World) (hH : Fr o w S (setR sb pb v1 v2 k u g tl)) (hk0 : 0 ≤ k) (hkm : k ≤ 1000000) (hul : (u.length : Int) = k) (hok : OkUp u) (hgm : -1000000 ≤ g ∧ g ≤ 1000000) :
 Calls Try.prog 110 [.pointer (some ⟨sb, 0, none⟩), .int .i64 k].toArray w (fun e w' => ∃ q, e = .returned q ∧ q = .bool true ∧ ∃ S v1 v2, Fr o w' S (setR sb pb v1 v2 (k + 1) (u ++ [k]) (g + 1) tl)) := by
 have hupl := upto_len k
 refine enter Try.f110 20 Try.func110 fun a hA => ?_
 replace hA := env_sub [(0, pv sb), (1, iv k)] hA
 have H := hH
 refine go_seq fun K1 hK1 => ?_
 refine q_reg [] [(0, pv sb), (1, iv k)] (TT ∧ True) hA H ⟨tv, tv⟩ fun a w2 hA H hG => ?_
 refine hK1 _ _ ?_
 refine go_seq fun K3 hK3 => ?_
 refine go_seq fun K4 hK4 => ?_
 refine q_reg [(8, .bool true)] [(0, pv sb), (1, iv k), (9, .bool false)] (TT ∧ TT ∧ (Callable Try.prog 134 ∧ CallOk Try.prog (On w2) 134 [.pointer (some ⟨sb, 0, none⟩), .int .i64 k].toArray (.bool true)) ∧ TT ∧ True) hA H ⟨tv, tv, ⟨callable_of, callOk_of fun w hw => by exact can_fr (H.on hw) 0 1 rfl rfl ⟨by omega, by omega⟩⟩, tv, tv⟩ fun a w5 hA H hG => ?_
 refine hK4 _ _ ?_
 refine go_cond hA (.tmp 9) false (fun h => by cases h) (fun _ => ?_)
 refine go_skip ?_
 refine hK3 _ _ ?_
 refine go_seq fun K7 hK7 => ?_
 refine q_reg [(13, v1), (14, iv ((upto k).length : Int))] [(0, pv sb), (1, iv k), (5, iv ((upto k).length : Int))] (TT ∧ TT ∧ (0 < Try.prog.cellsOf 27) ∧ (CellOk (On w5) sb (0 + 1) (v1)) ∧ (LenOk v1 ((upto k).length : Int)) ∧ TT ∧ True) hA H ⟨tv, tv, by decide +kernel, by exact box_cell H 0 rfl 1, by exact len_ok (H.out 2 rfl), tv, tv⟩ fun a w8 hA H hG => ?_
 refine hK7 _ _ ?_
 refine go_seq fun K9 hK9 => ?_
 refine region_list ?_
 refine q_list 0 2 [] [(5, iv ((upto k).length : Int)), (15, pv sb), (16, iv k)] (TT ∧ TT ∧ True) hA H ⟨tv, tv, tv⟩ fun a w10 hA H hG => ?_
 refine list_at 2 ?_; refine q_any 2 17 135 #[.tmp 15, .tmp 16] #[132, 3] [.pointer (some ⟨sb, 0, none⟩), .int .i64 k] _ [(5, iv ((upto k).length : Int))] hA (put_new sb pb v1 v2 k u g o _ (tl)  _ H (by omega) (by omega) (by omega) hok (by omega) ) fun v11 a w12 hR13 hA => ?_
 obtain ⟨rfl, S, q14a, q14b, H⟩ := hR13
 replace H : Fr _ _ _ (.box sb 156 [(.map (some pb)), q14a, q14b, .int .i64 (g + 1)] :: mapN Try.prog 3 pb (idM (k + 1)) :: .row 3 q14a (upto (k + 1)) :: .row 3 q14b (u ++ [k]) :: tl) := H
 refine q_list 3 3 [] [(4, .bool (decide (k = ((upto k).length : Int))))] (TT ∧ TT ∧ TT ∧ True) hA H ⟨tv, tv, tv, tv⟩ fun a w15 hA H hG => ?_
 refine list_end ?_
 refine hK9 _ _ ?_
 refine go_ret_ ?_
 refine ret_one (P := Try.prog) (fn := Try.f110) (R := (fun e w' => ∃ q, e = .returned q ∧ q = .bool true ∧ ∃ S v1 v2, Fr o w' S (setR sb pb v1 v2 (k + 1) (u ++ [k]) (g + 1) tl))) 4 (.bool (decide (k = ((upto k).length : Int)))) hA ?_
 exact ⟨_, rfl, by rw [decide_eq_true (by omega)], _, _, _, H⟩
theorem join_any (sb pb : Nat) (v1 v2 : Value) (k : Int) (u : List Int) (g : Int) (o : Orig) (S : Stab) (tl : List Res) (x y : Int) (w : World) (hH : Fr o w S (setR sb pb v1 v2 k u g tl)) (hk0 : 0 ≤ k) (hkm : k ≤ 1000000) (hul : (u.length : Int) = k) (hok : OkUp u) (hgm : -1000000 ≤ g ∧ g ≤ 1000000) (hx0 : 0 ≤ x) (hx1 : x < k) (hy0 : 0 ≤ y) (hy1 : y < k) :
 Calls Try.prog 111 [.pointer (some ⟨sb, 0, none⟩), .int .i64 x, .int .i64 y].toArray w (fun e w' => ∃ q, e = .returned q ∧ ∃ S b u' g', q = .bool b ∧ ((u'.length : Int) = k ∧ OkUp u' ∧ ∀ j, 0 ≤ j → j < k → rootL u' j = joinR (rootL u) x y j) ∧ (g - 1 ≤ g' ∧ g' ≤ g) ∧ Fr o w' S (setR sb pb v1 v2 k u' g' tl)) := by
 have hupl := upto_len k
 refine enter Try.f111 52 Try.func111 fun a hA => ?_
 replace hA := env_sub [(0, pv sb), (1, iv x), (2, iv y)] hA
 have H := hH
 refine go_seq fun K1 hK1 => ?_
 refine q_reg [] [(0, pv sb), (1, iv x), (2, iv y)] (TT ∧ True) hA H ⟨tv, tv⟩ fun a w2 hA H hG => ?_
 refine hK1 _ _ ?_
 refine go_seq fun K3 hK3 => ?_
 refine go_seq fun K4 hK4 => ?_
 refine q_reg [(11, .bool true), (16, .bool true)] [(0, pv sb), (1, iv x), (2, iv y), (18, .bool false)] (TT ∧ TT ∧ (Callable Try.prog 134 ∧ CallOk Try.prog (On w2) 134 [.pointer (some ⟨sb, 0, none⟩), .int .i64 x].toArray (.bool true)) ∧ TT ∧ TT ∧ ((false) = false → True) ∧ ((false) = false → True) ∧ ((false) = false → Callable Try.prog 134 ∧ CallOk Try.prog (On w2) 134 [.pointer (some ⟨sb, 0, none⟩), .int .i64 y].toArray (.bool true)) ∧ ((false) = false → True) ∧ TT ∧ True) hA H ⟨tv, tv, ⟨callable_of, callOk_of fun w hw => by exact can_fr (H.on hw) 0 1 rfl rfl ⟨by omega, by omega⟩⟩, tv, tv, fun _ => tv, fun _ => tv, fun hg0 => by replace hg0 := hg0; exact ⟨callable_of, callOk_of fun w hw => by exact can_fr (H.on hw) 0 1 rfl rfl ⟨by omega, by omega⟩⟩, fun _ => tv, tv, tv⟩ fun a w5 hA H hG => ?_
 refine hK4 _ _ ?_
 refine go_cond hA (.tmp 18) false (fun h => by cases h) (fun _ => ?_)
 refine go_skip ?_
 refine hK3 _ _ ?_
 refine go_seq fun K7 hK7 => ?_
 refine region_list ?_
 refine q_list 0 2 [] [(0, pv sb), (2, iv y), (19, pv sb), (20, iv x)] (TT ∧ TT ∧ True) hA H ⟨tv, tv, tv⟩ fun a w8 hA H hG => ?_
 refine list_at 2 ?_; refine q_any 2 21 135 #[.tmp 19, .tmp 20] #[132, 3] [.pointer (some ⟨sb, 0, none⟩), .int .i64 x] _ [(0, pv sb), (2, iv y)] hA (put_old sb pb v1 v2 k u g o _ (tl) x _ H (by omega) (by omega) (by omega) hok (by omega) (by omega) (by omega)) fun v9 a w10 hR11 hA => ?_
 obtain ⟨rfl, S, H⟩ := hR11
 replace H : Fr _ _ _ (.box sb 156 [(.map (some pb)), v1, v2, .int .i64 g] :: mapN Try.prog 3 pb (idM k) :: .row 3 v1 (upto k) :: .row 3 v2 u :: tl) := H
 refine q_list 3 1 [] [(0, pv sb), (2, iv y), (7, iv x)] (TT ∧ True) hA H ⟨tv, tv⟩ fun a w13 hA H hG => ?_
 refine list_end ?_
 refine hK7 _ _ ?_
 refine go_seq fun K14 hK14 => ?_
 refine region_list ?_
 refine q_list 0 2 [] [(0, pv sb), (7, iv x), (22, pv sb), (23, iv y)] (TT ∧ TT ∧ True) hA H ⟨tv, tv, tv⟩ fun a w15 hA H hG => ?_
 refine list_at 2 ?_; refine q_any 2 24 135 #[.tmp 22, .tmp 23] #[132, 3] [.pointer (some ⟨sb, 0, none⟩), .int .i64 y] _ [(0, pv sb), (7, iv x)] hA (put_old sb pb v1 v2 k u g o _ (tl) y _ H (by omega) (by omega) (by omega) hok (by omega) (by omega) (by omega)) fun v16 a w17 hR18 hA => ?_
 obtain ⟨rfl, S, H⟩ := hR18
 replace H : Fr _ _ _ (.box sb 156 [(.map (some pb)), v1, v2, .int .i64 g] :: mapN Try.prog 3 pb (idM k) :: .row 3 v1 (upto k) :: .row 3 v2 u :: tl) := H
 refine q_list 3 1 [] [(0, pv sb), (7, iv x), (8, iv y)] (TT ∧ True) hA H ⟨tv, tv⟩ fun a w20 hA H hG => ?_
 refine list_end ?_
 refine hK14 _ _ ?_
 refine go_seq fun K21 hK21 => ?_
 refine region_list ?_
 refine q_list 0 2 [] [(0, pv sb), (8, iv y), (25, pv sb), (26, iv x)] (TT ∧ TT ∧ True) hA H ⟨tv, tv, tv⟩ fun a w22 hA H hG => ?_
 have hro1 := rootL_of hok hx0 (by omega); have hro2 := rootL_of hok hy0 (by omega)
 refine list_at 2 ?_; refine q_any 2 27 136 #[.tmp 25, .tmp 26] #[132, 3] [.pointer (some ⟨sb, 0, none⟩), .int .i64 x] _ [(0, pv sb), (8, iv y)] hA (root_any sb pb v1 v2 k u g o _ (tl) x (rootL u x) _ H (by omega) (by omega) (by omega) hok (by omega) (by omega) (by omega) rfl) fun v23 a w24 hR25 hA => ?_
 obtain ⟨rfl, S, q26u, ⟨hul, hok, hrt⟩, H⟩ := hR25
 replace H : Fr _ _ _ (.box sb 156 [(.map (some pb)), v1, v2, .int .i64 g] :: mapN Try.prog 3 pb (idM k) :: .row 3 v1 (upto k) :: .row 3 v2 q26u :: tl) := H
 refine q_list 3 2 [] [(0, pv sb), (27, iv (rootL u x)), (28, pv sb), (29, iv y)] (TT ∧ TT ∧ True) hA H ⟨tv, tv, tv⟩ fun a w27 hA H hG => ?_
 have hrt0 := hrt
 refine list_at 5 ?_; refine q_any 5 30 136 #[.tmp 28, .tmp 29] #[132, 3] [.pointer (some ⟨sb, 0, none⟩), .int .i64 y] _ [(0, pv sb), (27, iv (rootL u x))] hA (root_any sb pb v1 v2 k q26u g o _ (tl) y (rootL u y) _ H (by omega) (by omega) (by omega) hok (by omega) (by omega) (by omega) (hrt y (by omega) (by omega))) fun v28 a w29 hR30 hA => ?_
 obtain ⟨rfl, S, q31u, ⟨hul, hok, hrt⟩, H⟩ := hR30
 replace H : Fr _ _ _ (.box sb 156 [(.map (some pb)), v1, v2, .int .i64 g] :: mapN Try.prog 3 pb (idM k) :: .row 3 v1 (upto k) :: .row 3 v2 q31u :: tl) := H
 refine q_list 6 2 [] [(0, pv sb), (7, iv (rootL u x)), (8, iv (rootL u y))] (TT ∧ TT ∧ True) hA H ⟨tv, tv, tv⟩ fun a w32 hA H hG => ?_
 refine list_end ?_
 refine hK21 _ _ ?_
 refine go_seq fun K33 hK33 => ?_
 refine go_seq fun K34 hK34 => ?_
 refine q_reg [] [(0, pv sb), (7, iv (rootL u x)), (8, iv (rootL u y)), (33, .bool (decide (rootL u x = rootL u y)))] (TT ∧ TT ∧ TT ∧ True) hA H ⟨tv, tv, tv, tv⟩ fun a w35 hA H hG => ?_
 refine hK34 _ _ ?_
 refine go_cond hA (.tmp 33) (decide (rootL u x = rootL u y)) (fun hb36 => ?_) (fun hb36 => ?_)
 · have hhb36 := of_decide_eq_true hb36
   refine go_seq fun K37 hK37 => ?_
   refine q_reg [] [(6, .bool false)] (TT ∧ True) hA H ⟨tv, tv⟩ fun a w38 hA H hG => ?_
   refine hK37 _ _ ?_
   refine go_ret_ ?_
   refine ret_one (P := Try.prog) (fn := Try.f111) (R := (fun e w' => ∃ q, e = .returned q ∧ ∃ S b u' g', q = .bool b ∧ ((u'.length : Int) = k ∧ OkUp u' ∧ ∀ j, 0 ≤ j → j < k → rootL u' j = joinR (rootL u) x y j) ∧ (g - 1 ≤ g' ∧ g' ≤ g) ∧ Fr o w' S (setR sb pb v1 v2 k u' g' tl))) 6 (.bool false) hA ?_
   exact ⟨_, rfl, _, false, _, g, rfl, ⟨hul, hok, fun j h1 h2 => by rw [hrt j h1 h2, hrt0 j h1 h2]; exact (joinR_same hhb36 j).symm⟩, by omega, H⟩
 have hhb36 := of_decide_eq_false hb36
 refine go_skip ?_
 refine hK33 _ _ ?_
 refine go_seq fun K39 hK39 => ?_
 have ha9 := rootL_of (i := x) hok (by omega) (by omega)
 have hb9 := rootL_of (i := y) hok (by omega) (by omega)
 rw [hrt x (by omega) (by omega), hrt0 x (by omega) (by omega)] at ha9; rw [hrt y (by omega) (by omega), hrt0 y (by omega) (by omega)] at hb9
 have hj9 := join_ok hok ha9.1 hb9.1 (by omega) (by omega) ha9.2.2 hb9.2.2 hhb36
 refine region_list ?_
 refine q_list 0 11 [(37, v2), (40, iv (max (rootL u x) (rootL u y))), (43, iv (min (rootL u x) (rootL u y)))] [(0, pv sb), (43, iv (min (rootL u x) (rootL u y))), (44, .pointer (some ⟨hdB v2, hdO v2 + (max (rootL u x) (rootL u y)).toNat * 1, none⟩))] (TT ∧ TT ∧ (0 < Try.prog.cellsOf 27) ∧ (CellOk (On w35) sb (0 + 2) (v2)) ∧ TT ∧ TT ∧ (∀ ty w, (Builtin.max_ #[3, 3] ty [.int .i64 (rootL u x), .int .i64 (rootL u y)].toArray).run Try.prog w = .ok (.int .i64 (max (rootL u x) (rootL u y))) w) ∧ TT ∧ TT ∧ (∀ ty w, (Builtin.min_ #[3, 3] ty [.int .i64 (rootL u x), .int .i64 (rootL u y)].toArray).run Try.prog w = .ok (.int .i64 (min (rootL u x) (rootL u y))) w) ∧ ((Try.prog.info? 3).isSome = true ∧ IdxOk v2 (max (rootL u x) (rootL u y))) ∧ True) hA H ⟨tv, tv, by decide +kernel, by exact box_cell H 0 rfl 2, tv, tv, fun ty w => max_ok ty w, tv, tv, fun ty w => min_ok ty w, ⟨by kernel_rfl, by exact idx_ok (H.out 3 rfl) (by omega) (by omega)⟩, tv⟩ fun a w40 hA H hG => ?_
 refine list_at 11 ?_; refine q_storeRow 11 3 (.tmp 44) (.tmp 43) 3 ((max (rootL u x) (rootL u y)).toNat * 1) 3 v2 q31u (q31u.set (max (rootL u x) (rootL u y)).toNat (min (rootL u x) (rootL u y))) [.int .i64 (min (rootL u x) (rootL u y))] (.int .i64 (min (rootL u x) (rootL u y))) [(0, pv sb)] hA H rfl rfl (Nat.zero_lt_succ _) (row_room (by omega) (by omega)) (List.length_set ..) (fun xs hxs => rd_setI (by omega) hxs) (fun v hv => by simp only [List.mem_cons, List.not_mem_nil, or_false] at hv; rcases hv with rfl; exact rfl) fun a w41 H hA hG => ?_
 replace H : Fr _ _ _ (.box sb 156 [(.map (some pb)), v1, v2, .int .i64 g] :: mapN Try.prog 3 pb (idM k) :: .row 3 v1 (upto k) :: .row 3 v2 (q31u.set (max (rootL u x) (rootL u y)).toNat (min (rootL u x) (rootL u y))) :: tl) := H
 refine list_end ?_
 refine hK39 _ _ ?_
 refine go_seq fun K42 hK42 => ?_
 refine region_list ?_
 refine q_list 0 7 [(48, iv g)] [(49, iv (g - 1)), (51, .pointer (some ⟨sb, 0 + 3, none⟩))] (TT ∧ TT ∧ (0 < Try.prog.cellsOf 3) ∧ (CellOk (On w41) sb (0 + 3) (.int .i64 g)) ∧ (InR .i64 (g - 1)) ∧ TT ∧ (0 < Try.prog.cellsOf 3) ∧ True) hA H ⟨tv, tv, by decide +kernel, by exact box_cell H 0 rfl 3, ⟨by omega, by omega⟩, tv, by decide +kernel, tv⟩ fun a w43 hA H hG => ?_
 refine list_at 7 ?_; refine q_store 7 3 (.tmp 51) (.tmp 49) 0 sb (0 + 3) 156 [(.map (some pb)), v1, v2, .int .i64 g] [.int .i64 (g - 1)] [(.map (some pb)), v1, v2, .int .i64 (g - 1)] (.int .i64 (g - 1)) [] hA H rfl rfl (Nat.le_of_ble_eq_true (by kernel_rfl)) rfl (fun v hv => by simp only [List.mem_cons, List.not_mem_nil, or_false] at hv; rcases hv with rfl; exact rfl) fun a w44 H hA hG => ?_
 replace H : Fr _ _ _ (.box sb 156 [(.map (some pb)), v1, v2, .int .i64 (g - 1)] :: mapN Try.prog 3 pb (idM k) :: .row 3 v1 (upto k) :: .row 3 v2 (q31u.set (max (rootL u x) (rootL u y)).toNat (min (rootL u x) (rootL u y))) :: tl) := H
 refine list_end ?_
 refine hK42 _ _ ?_
 refine go_seq fun K45 hK45 => ?_
 refine q_reg [] [(6, .bool true)] (TT ∧ True) hA H ⟨tv, tv⟩ fun a w46 hA H hG => ?_
 refine hK45 _ _ ?_
 refine go_ret_ ?_
 refine ret_one (P := Try.prog) (fn := Try.f111) (R := (fun e w' => ∃ q, e = .returned q ∧ ∃ S b u' g', q = .bool b ∧ ((u'.length : Int) = k ∧ OkUp u' ∧ ∀ j, 0 ≤ j → j < k → rootL u' j = joinR (rootL u) x y j) ∧ (g - 1 ≤ g' ∧ g' ≤ g) ∧ Fr o w' S (setR sb pb v1 v2 k u' g' tl))) 6 (.bool true) hA ?_
 exact ⟨_, rfl, _, true, _, _, rfl, ⟨by rw [List.length_set]; exact hul, hj9.1, fun j h1 h2 => by rw [hj9.2 j h1 (by omega), hrt j h1 h2, hrt0 j h1 h2]; rfl⟩, by omega, H⟩
theorem snew_any (o : Orig) (S : Stab) (tl : List Res) (w : World) (hH : Fr o w S tl) :
 Calls Try.prog 109 [(.slice none 0 0)].toArray w (fun e w' => ∃ q, e = .returned q ∧ ∃ S sb pb, q = .pointer (some ⟨sb, 0, none⟩) ∧ Fr o w' S (setR sb pb (.slice none 0 0) (.slice none 0 0) 0 [] 0 tl)) := by
 refine enter Try.f109 20 Try.func109 fun a hA => ?_
 replace hA := env_sub [(0, (.slice none 0 0))] hA
 have H := hH
 refine go_seq fun K1 hK1 => ?_
 refine q_reg [] [(0, (.slice none 0 0))] (TT ∧ True) hA H ⟨tv, tv⟩ fun a w2 hA H hG => ?_
 refine hK1 _ _ ?_
 refine go_seq fun K3 hK3 => ?_
 refine region_list ?_
 refine list_at 0 ?_; refine q_makeMap Int 3 0 6 130 [(0, (.slice none 0 0))] hA H fun b4 a w5 H hA hG hge_b4 => ?_
 clear hge_b4
 replace H : Fr _ _ _ (mapN Try.prog 3 b4 [] :: tl) := H
 refine q_list 1 1 [(7, .agg #[(.map (some b4)), (.slice none 0 0), (.slice none 0 0), .int .i64 0])] [(0, (.slice none 0 0)), (7, .agg #[(.map (some b4)), (.slice none 0 0), (.slice none 0 0), .int .i64 0])] ((∀ w, (Instr.build 156 #[(0, (.map (some b4)))]).run Try.prog w = .ok (.agg #[(.map (some b4)), (.slice none 0 0), (.slice none 0 0), .int .i64 0]) w) ∧ True) hA H ⟨fun w => by kernel_rfl, tv⟩ fun a w6 hA H hG => ?_
 refine list_at 2 ?_; refine q_box 2 8 156 (.tmp 7) (.agg #[(.map (some b4)), (.slice none 0 0), (.slice none 0 0), .int .i64 0]) [(.map (some b4)), (.slice none 0 0), (.slice none 0 0), .int .i64 0] [(0, (.slice none 0 0))] hA H fun b7 a w8 H hA hG hge_b7 => ?_
 clear hge_b7
 refine q_list 3 1 [] [(0, (.slice none 0 0)), (3, pv b7)] (TT ∧ True) hA H ⟨tv, tv⟩ fun a w9 hA H hG => ?_
 refine list_end ?_
 refine hK3 _ _ ?_
 refine go_seq fun K10 hK10 => ?_
 refine go_seq fun K11 hK11 => ?_
 refine q_reg [(10, iv 0)] [(3, pv b7), (9, (.slice none 0 0)), (10, iv 0), (11, iv 0)] (TT ∧ (LenOk (.slice none 0 0) 0) ∧ TT ∧ True) hA H ⟨tv, ⟨_, _, _, rfl, rfl⟩, tv, tv⟩ fun a w12 hA H hG => ?_
 refine hK11 _ _ ?_
 refine go_block 0 ?_
 replace H := H.newRow (α := Int) 3
 replace H := H.newRow (α := Int) 3
 replace H := Fr.order [.row 3 (.slice none 0 0) ([] : List Int), .row 3 (.slice none 0 0) ([] : List Int), .box b7 156 [(.map (some b4)), (.slice none 0 0), (.slice none 0 0), .int .i64 0], mapN Try.prog 3 b4 []] tl H [2, 3, 1, 0] (by show List.Perm _ (List.range 4); decide)
 replace H : Fr _ _ _ (.box b7 156 [(.map (some b4)), (.slice none 0 0), (.slice none 0 0), .int .i64 0] :: mapN Try.prog 3 b4 [] :: .row 3 (.slice none 0 0) ([] : List Int) :: .row 3 (.slice none 0 0) ([] : List Int) :: tl) := H
 refine go_loop_ (Int) (fun x_ a W => (fun (i : Int) => EnvOk 20 a (keepEnv [(3, pv b7), (9, (.slice none 0 0)), (10, iv 0), (11, iv i)]) ∧ (∃ S, Fr o W S (.box b7 156 [(.map (some b4)), (.slice none 0 0), (.slice none 0 0), .int .i64 0] :: mapN Try.prog 3 b4 [] :: .row 3 (.slice none 0 0) ([] : List Int) :: .row 3 (.slice none 0 0) ([] : List Int) :: tl)) ∧ i = 0) x_) (fun x_ => (fun (i : Int) => 0) x_) (0) ?_ (fun i a w14 hI => ?_)
 · (try dsimp only); exact ⟨env_sub _ hA, ⟨_, H⟩, rfl⟩
 obtain ⟨hA, ⟨S, H⟩, hi⟩ := hI
 try dsimp only at hi
 refine go_seq fun K15 hK15 => ?_
 refine q_reg [] [(3, pv b7), (9, (.slice none 0 0)), (10, iv 0), (11, iv i), (12, .bool (decide (i < 0)))] (TT ∧ True) hA H ⟨tv, tv⟩ fun a w16 hA H hG => ?_
 refine hK15 _ _ ?_
 refine go_seq fun K17 hK17 => ?_
 refine go_cond hA (.tmp 12) (decide (i < 0)) (fun hb18 => ?_) (fun hb18 => ?_)
 · have hhb18 := of_decide_eq_true hb18
   omega
 have hhb18 := of_decide_eq_false hb18
 refine go_exit 0 ?_
 refine hK10 _ _ ?_
 refine go_seq fun K19 hK19 => ?_
 refine q_reg [] [(2, pv b7)] (TT ∧ TT ∧ True) hA H ⟨tv, tv, tv⟩ fun a w20 hA H hG => ?_
 refine hK19 _ _ ?_
 refine go_ret_ ?_
 refine ret_one (P := Try.prog) (fn := Try.f109) (R := (fun e w' => ∃ q, e = .returned q ∧ ∃ S sb pb, q = .pointer (some ⟨sb, 0, none⟩) ∧ Fr o w' S (setR sb pb (.slice none 0 0) (.slice none 0 0) 0 [] 0 tl))) 2 (.pointer (some ⟨b7, 0, none⟩)) hA ?_
 exact ⟨_, rfl, _, _, _, rfl, H⟩
abbrev Lk := Int × Int × Int
def lkA (l : List Lk) (i : Int) : Int := (l.getD i.toNat (0, (0, 0))).1
def lkB (l : List Lk) (i : Int) : Int := (l.getD i.toNat (0, (0, 0))).2.1
def lkI (l : List Lk) (i : Int) : Int := (l.getD i.toNat (0, (0, 0))).2.2
abbrev ClS := (Int → Int) × (Int → Option Int)
def clStep (u v i w : Int) (s : ClS) : ClS :=
 if w = u ∨ w = v then s else match s.2 w with
   | some f => (joinR s.1 f i, s.2)
   | none => (s.1, fun z => if z = w then some i else s.2 z)
def clRun (u v : Int) (l : List Lk) : Nat → ClS
 | 0 => (fun j => j, fun _ => none)
 | i + 1 => clStep u v (i : Int) (lkB l (i : Int)) (clStep u v (i : Int) (lkA l (i : Int)) (clRun u v l i))
def clPart (u v : Int) (l : List Lk) (i t : Int) : ClS :=
 if t < 1 then clRun u v l i.toNat else if t < 2 then clStep u v i (lkA l i) (clRun u v l i.toNat) else clStep u v i (lkB l i) (clStep u v i (lkA l i) (clRun u v l i.toNat))
def clR (u v : Int) (l : List Lk) : Int → Int := (clRun u v l l.length).1
def classesL (l : List Lk) (u v : Int) : List (List Int) := groupsR (clR u v l) (l.length : Int)
structure ClB (i : Int) (s : ClS) : Prop where
 le : ∀ j, s.1 j ≤ j
 id : ∀ j, i ≤ j → s.1 j = j
 fs : ∀ w f, s.2 w = some f → 0 ≤ f ∧ f < i
theorem clB_step {u v i w : Int} {s : ClS} (h0 : 0 ≤ i) (h : ClB (i + 1) s) : ClB (i + 1) (clStep u v i w s) := by
 unfold clStep
 split
 · exact h
 split
 · rename_i f hf
   obtain ⟨f0, f1⟩ := h.fs w f hf
   refine ⟨fun j => ?_, fun j hj => ?_, h.fs⟩
   · show joinR s.1 f i j ≤ j
     unfold joinR
     have := h.le j
     split <;> omega
   show joinR s.1 f i j = j
   unfold joinR
   have a := h.id j hj
   have b := h.le f
   have c := h.le i
   rw [if_neg (by omega)]; exact a
 refine ⟨h.le, h.id, fun z f hz => ?_⟩
 have hz : (if z = w then some i else s.2 z) = some f := hz
 split at hz
 · cases hz; omega
 exact h.fs z f hz
theorem ClB.up {i : Int} {s : ClS} (h : ClB i s) : ClB (i + 1) s := ⟨h.le, fun j hj => h.id j (by omega), fun w f hf => by have := h.fs w f hf; omega⟩
theorem clB_run (u v : Int) (l : List Lk) : ∀ i : Nat, ClB (i : Int) (clRun u v l i)
 | 0 => ⟨fun j => Int.le_refl _, fun j _ => rfl, fun w f hf => by cases hf⟩
 | i + 1 => clB_step (by omega) (clB_step (by omega) (clB_run u v l i).up)
theorem clB_part (u v : Int) (l : List Lk) {i t : Int} (h0 : 0 ≤ i) : ClB (i + 1) (clPart u v l i t) := by
 have h := clB_run u v l i.toNat
 rw [show ((i.toNat : Nat) : Int) = i by omega] at h
 unfold clPart
 split
 · exact h.up
 split
 · exact clB_step h0 h.up
 exact clB_step h0 (clB_step h0 h.up)
structure ClI (u v : Int) (l : List Lk) (i t : Int) (c : List Int) (m : List (Int × Int)) (k : Int) : Prop where
 len : (c.length : Int) = k
 ok : OkUp c
 rt : ∀ j, 0 ≤ j → j < k → rootL c j = (clPart u v l i t).1 j
 fst : ∀ w, lastAt m w = (clPart u v l i t).2 w
theorem cl_start (u v : Int) (l : List Lk) : ClI u v l 0 0 [] [] 0 :=
 ⟨rfl, fun j hj => by simp at hj, fun j h0 h1 => by omega, fun w => rfl⟩
section
variable {u v : Int} {l : List Lk} {i t k : Int} {c : List Int} {m : List (Int × Int)}
theorem cl_add (h : ClI u v l i 0 c m i) (h0 : 0 ≤ i) : ClI u v l i 0 (c ++ [i]) m (i + 1) := by
 obtain ⟨a, b, d⟩ := add_ok h.ok
 rw [h.len] at a b d
 refine ⟨by rw [List.length_append]; have := h.len; simp; omega, a, fun j j0 j1 => ?_, h.fst⟩
 by_cases e : j = i
 · subst e
   rw [d]
   have hb := clB_run u v l j.toNat
   exact (hb.id j (by omega)).symm
 rw [b j j0 (by omega)]; exact h.rt j j0 (by omega)
theorem clPart_succ (h0 : 0 ≤ t) (h1 : t < 2) : clPart u v l i (t + 1) = clStep u v i (([lkA l i, lkB l i] : List Int).getD t.toNat 0) (clPart u v l i t) := by
 have : t = 0 ∨ t = 1 := by omega
 rcases this with rfl | rfl
 · rfl
 rfl
theorem cl_skip (h : ClI u v l i t c m k) (h0 : 0 ≤ t) (h1 : t < 2) (hw : ([lkA l i, lkB l i] : List Int).getD t.toNat 0 = u ∨ ([lkA l i, lkB l i] : List Int).getD t.toNat 0 = v) : ClI u v l i (t + 1) c m k := by
 have e : clPart u v l i (t + 1) = clPart u v l i t := by rw [clPart_succ h0 h1]; unfold clStep; rw [if_pos hw]
 exact ⟨h.len, h.ok, by rw [e]; exact h.rt, by rw [e]; exact h.fst⟩
theorem cl_range (h : ClI u v l i t c m k) (h0 : 0 ≤ i) {w f : Int} (hf : lastAt m w = some f) : 0 ≤ f ∧ f ≤ i := by
 have := (clB_part u v l (t := t) h0).fs w f (by rw [← h.fst]; exact hf)
 omega
theorem joinR_congr {R R' : Int → Int} {x y j : Int} (hx : R x = R' x) (hy : R y = R' y) (hj : R j = R' j) : joinR R x y j = joinR R' x y j := by unfold joinR; rw [hx, hy, hj]
theorem cl_join (h : ClI u v l i t c m (i + 1)) (h0 : 0 ≤ t) (h1 : t < 2) (hi : 0 ≤ i) (hw : ¬ (([lkA l i, lkB l i] : List Int).getD t.toNat 0 = u ∨ ([lkA l i, lkB l i] : List Int).getD t.toNat 0 = v)) {f : Int} (hf : lastAt m (([lkA l i, lkB l i] : List Int).getD t.toNat 0) = some f)
   {c' : List Int} (hl : (c'.length : Int) = i + 1) (hok : OkUp c') (hr : ∀ j, 0 ≤ j → j < i + 1 → rootL c' j = joinR (rootL c) f i j) : ClI u v l i (t + 1) c' m (i + 1) := by
 have hfr := cl_range h hi hf
 have hf' := hf
 rw [h.fst] at hf'
 have e : clPart u v l i (t + 1) = (joinR (clPart u v l i t).1 f i, (clPart u v l i t).2) := by rw [clPart_succ h0 h1]; unfold clStep; rw [if_neg hw, hf']
 refine ⟨hl, hok, fun j j0 j1 => ?_, by rw [e]; exact h.fst⟩
 rw [e, hr j j0 j1]
 exact joinR_congr (h.rt f hfr.1 (by omega)) (h.rt i hi (by omega)) (h.rt j j0 j1)
theorem cl_put (h : ClI u v l i t c m k) (h0 : 0 ≤ t) (h1 : t < 2) (hw : ¬ (([lkA l i, lkB l i] : List Int).getD t.toNat 0 = u ∨ ([lkA l i, lkB l i] : List Int).getD t.toNat 0 = v)) (hf : lastAt m (([lkA l i, lkB l i] : List Int).getD t.toNat 0) = none) :
   ClI u v l i (t + 1) c (m ++ [(([lkA l i, lkB l i] : List Int).getD t.toNat 0, i)]) k := by
 have hf' := hf
 rw [h.fst] at hf'
 have e : clPart u v l i (t + 1) = ((clPart u v l i t).1, fun z => if z = ([lkA l i, lkB l i] : List Int).getD t.toNat 0 then some i else (clPart u v l i t).2 z) := by rw [clPart_succ h0 h1]; unfold clStep; rw [if_neg hw, hf']
 refine ⟨h.len, h.ok, by rw [e]; exact h.rt, fun z => ?_⟩
 rw [e, lastAt_snoc]
 show (if _ = z then some i else lastAt m z) = if z = _ then some i else (clPart u v l i t).2 z
 by_cases q : z = ([lkA l i, lkB l i] : List Int).getD t.toNat 0
 · rw [if_pos q.symm, if_pos q]
 rw [if_neg (fun e => q e.symm), if_neg q]; exact h.fst z
theorem cl_next (h : ClI u v l i 2 c m (i + 1)) (h0 : 0 ≤ i) : ClI u v l (i + 1) 0 c m (i + 1) := by
 have e : clPart u v l (i + 1) 0 = clPart u v l i 2 := by
   show clRun u v l (i + 1).toNat = _
   rw [show (i + 1).toNat = i.toNat + 1 by omega]
   show clStep u v ((i.toNat : Nat) : Int) (lkB l ((i.toNat : Nat) : Int)) (clStep u v ((i.toNat : Nat) : Int) (lkA l ((i.toNat : Nat) : Int)) (clRun u v l i.toNat)) = _
   rw [show ((i.toNat : Nat) : Int) = i by omega]
   rfl
 exact ⟨h.len, h.ok, by rw [e]; exact h.rt, by rw [e]; exact h.fst⟩
theorem groupsR_congr {R R' : Int → Int} {k : Int} (h : ∀ j, 0 ≤ j → j < k → R j = R' j) : groupsR R k = groupsR R' k := by
 have e : rootsTo R k = rootsTo R' k := by
   unfold rootsTo
   exact List.filter_congr fun j hj => by rw [h j (mem_upto.1 hj).1 (mem_upto.1 hj).2]
 unfold groupsR
 rw [e]
 refine List.map_congr_left fun r _ => List.filter_congr fun j hj => ?_
 rw [h j (mem_upto.1 hj).1 (mem_upto.1 hj).2]
theorem cl_end (h : ClI u v l (l.length : Int) 0 c m (l.length : Int)) : groupsR (rootL c) (l.length : Int) = classesL l u v := by
 refine groupsR_congr fun j j0 j1 => ?_
 rw [h.rt j j0 j1]
 show (clRun u v l ((l.length : Int)).toNat).1 j = _
 rw [Int.toNat_natCast]; rfl
end
theorem pick_wf {a b t : Int} (h : wfI a ∧ wfI b) (h0 : 0 ≤ t) (h1 : t < 2) : wfI (([a, b] : List Int).getD t.toNat 0) := by
 have : t = 0 ∨ t = 1 := by omega
 rcases this with rfl | rfl
 · exact h.1
 exact h.2
theorem classes_any (vl : Value) (l : List (Int × Int × Int)) (x y : Int) (o : Orig) (hL : Rd (· < o.w.heap.size) o.w vl l) (hs : l.length ≤ 100000) (hx : -9223372036854775808 ≤ x ∧ x ≤ 9223372036854775807) (hy : -9223372036854775808 ≤ y ∧ y ≤ 9223372036854775807) (hb : ∀ i, 0 ≤ i → i < (l.length : Int) → wfI (lkA l i) ∧ wfI (lkB l i)) :
 Calls Try.prog 86 [vl, .int .i64 x, .int .i64 y].toArray o.w (Giv o (fun S v w' => Rd S w' v (classesL l x y))) := by
 refine enter Try.f86 63 Try.func86 fun a hA => ?_
 replace hA := env_sub [(0, vl), (1, iv x), (2, iv y)] hA
 have H := Fr.start o
 refine go_seq fun K1 hK1 => ?_
 refine q_reg [] [(0, vl), (1, iv x), (2, iv y)] (TT ∧ True) hA H ⟨tv, tv⟩ fun a w2 hA H hG => ?_
 refine hK1 _ _ ?_
 refine go_seq fun K3 hK3 => ?_
 refine region_list ?_
 refine list_at 0 ?_; refine q_any 0 15 109 #[.const ((.slice none 0 0))] #[27] [(.slice none 0 0)] _ [(0, vl), (1, iv x), (2, iv y)] hA (snew_any o _ [] _ H) fun v4 a w5 hR6 hA => ?_
 obtain ⟨S, sb7, pb8, rfl, H⟩ := hR6
 replace H : Fr _ _ _ [.box sb7 156 [(.map (some pb8)), (.slice none 0 0), (.slice none 0 0), .int .i64 0], mapN Try.prog 3 pb8 (idM 0), .row 3 (.slice none 0 0) (upto 0), .row 3 (.slice none 0 0) []] := H
 refine q_list 1 1 [] [(0, vl), (1, iv x), (2, iv y), (7, pv sb7)] (TT ∧ True) hA H ⟨tv, tv⟩ fun a w9 hA H hG => ?_
 refine list_end ?_
 refine hK3 _ _ ?_
 refine go_seq fun K10 hK10 => ?_
 refine region_list ?_
 refine list_at 0 ?_; refine q_makeMap Int 3 0 16 130 [(0, vl), (1, iv x), (2, iv y), (7, pv sb7)] hA H fun b11 a w12 H hA hG hge_b11 => ?_
 clear hge_b11
 replace H : Fr _ _ _ [mapN Try.prog 3 b11 [], .box sb7 156 [(.map (some pb8)), (.slice none 0 0), (.slice none 0 0), .int .i64 0], mapN Try.prog 3 pb8 (idM 0), .row 3 (.slice none 0 0) (upto 0), .row 3 (.slice none 0 0) []] := H
 refine q_list 1 1 [] [(0, vl), (1, iv x), (2, iv y), (7, pv sb7), (8, (.map (some b11)))] (TT ∧ True) hA H ⟨tv, tv⟩ fun a w13 hA H hG => ?_
 refine list_end ?_
 refine hK10 _ _ ?_
 refine go_seq fun K14 hK14 => ?_
 refine go_seq fun K15 hK15 => ?_
 refine q_reg [(18, iv (l.length : Int))] [(1, iv x), (2, iv y), (7, pv sb7), (8, (.map (some b11))), (17, vl), (18, iv (l.length : Int)), (19, iv 0)] (TT ∧ (LenOk vl (l.length : Int)) ∧ TT ∧ True) hA H ⟨tv, by exact len_ok (H.arg hL), tv, tv⟩ fun a w16 hA H hG => ?_
 refine hK15 _ _ ?_
 refine go_block 0 ?_
 replace H := Fr.order [mapN Try.prog 3 b11 [], .box sb7 156 [(.map (some pb8)), (.slice none 0 0), (.slice none 0 0), .int .i64 0], mapN Try.prog 3 pb8 (idM 0), .row 3 (.slice none 0 0) (upto 0), .row 3 (.slice none 0 0) []] [] H [1, 2, 3, 4, 0] (by show List.Perm _ (List.range 5); decide)
 replace H : Fr _ _ _ [.box sb7 156 [(.map (some pb8)), (.slice none 0 0), (.slice none 0 0), .int .i64 0], mapN Try.prog 3 pb8 (idM 0), .row 3 (.slice none 0 0) (upto 0), .row 3 (.slice none 0 0) [], mapN Try.prog 3 b11 []] := H
 refine go_loop_ (Int × Value × Value × List Int × Int × List (Int × Int)) (fun x_ a W => (fun (i : Int) (v1 : Value) (v2 : Value) (c : List Int) (gg : Int) (m : List (Int × Int)) => EnvOk 63 a (keepEnv [(1, iv x), (2, iv y), (7, pv sb7), (8, (.map (some b11))), (17, vl), (18, iv (l.length : Int)), (19, iv i)]) ∧ (∃ S, Fr o W S [.box sb7 156 [(.map (some pb8)), v1, v2, .int .i64 gg], mapN Try.prog 3 pb8 (idM i), .row 3 v1 (upto i), .row 3 v2 c, mapN Try.prog 3 b11 m]) ∧ 0 ≤ i ∧ i ≤ (l.length : Int) ∧ ClI x y l i 0 c m i ∧ (m.length : Int) ≤ 2 * i ∧ -(2 * i) ≤ gg ∧ gg ≤ i) x_.1 x_.2.1 x_.2.2.1 x_.2.2.2.1 x_.2.2.2.2.1 x_.2.2.2.2.2) (fun x_ => (fun (i : Int) (v1 : Value) (v2 : Value) (c : List Int) (gg : Int) (m : List (Int × Int)) => ((l.length : Int) - i).toNat) x_.1 x_.2.1 x_.2.2.1 x_.2.2.2.1 x_.2.2.2.2.1 x_.2.2.2.2.2) (0, .slice none 0 0, .slice none 0 0, [], 0, []) ?_ (fun x_ a w18 hI => ?_)
 · (try dsimp only); exact ⟨env_sub _ hA, ⟨_, H⟩, by omega, by omega, cl_start _ _ _, by simp, by omega, by omega⟩
 obtain ⟨i, v1, v2, c, gg, m⟩ := x_
 obtain ⟨hA, ⟨S, H⟩, h0, h0b, hcl, hml, hg0, hg1⟩ := hI
 try dsimp only at h0 h0b hcl hml hg0 hg1
 replace H : Fr _ _ _ [.box sb7 156 [(.map (some pb8)), v1, v2, .int .i64 gg], mapN Try.prog 3 pb8 (idM i), .row 3 v1 (upto i), .row 3 v2 c, mapN Try.prog 3 b11 m] := H
 have hok := hcl.ok; have hul := hcl.len
 refine go_seq fun K19 hK19 => ?_
 refine q_reg [] [(1, iv x), (2, iv y), (7, pv sb7), (8, (.map (some b11))), (17, vl), (18, iv (l.length : Int)), (19, iv i), (20, .bool (decide (i < (l.length : Int))))] (TT ∧ True) hA H ⟨tv, tv⟩ fun a w20 hA H hG => ?_
 refine hK19 _ _ ?_
 refine go_seq fun K21 hK21 => ?_
 refine go_cond hA (.tmp 20) (decide (i < (l.length : Int))) (fun hb22 => ?_) (fun hb22 => ?_)
 · have hhb22 := of_decide_eq_true hb22
   refine go_skip ?_
   refine hK21 _ _ ?_
   refine go_seq fun K23 hK23 => ?_
   refine go_block 1 ?_
   refine go_seq fun K24 hK24 => ?_
   refine region_list ?_
   refine q_list 0 3 [(23, .agg #[.int .i64 ((l.getD i.toNat (0, (0, 0))).1), .int .i64 (((l.getD i.toNat (0, (0, 0))).2).1), .int .i64 (((l.getD i.toNat (0, (0, 0))).2).2)])] [(1, iv x), (2, iv y), (7, pv sb7), (8, (.map (some b11))), (17, vl), (18, iv (l.length : Int)), (19, iv i), (21, iv i), (23, .agg #[.int .i64 ((l.getD i.toNat (0, (0, 0))).1), .int .i64 (((l.getD i.toNat (0, (0, 0))).2).1), .int .i64 (((l.getD i.toNat (0, (0, 0))).2).2)])] (TT ∧ ((Try.prog.info? 92).isSome = true ∧ IdxOk vl i) ∧ ((Try.prog.info? 92).isSome = true ∧ RowOk (On w20) (hdB vl) (hdO vl + i.toNat * 3) (Try.prog.cellsOf 92) #[.int .i64 ((l.getD i.toNat (0, (0, 0))).1), .int .i64 (((l.getD i.toNat (0, (0, 0))).2).1), .int .i64 (((l.getD i.toNat (0, (0, 0))).2).2)]) ∧ True) hA H ⟨tv, ⟨by kernel_rfl, by exact idx_ok (H.arg hL) (by first | omega | (simp only [List.length_cons, List.length_nil]; omega)) (by first | omega | (simp only [List.length_cons, List.length_nil]; omega))⟩, ⟨by kernel_rfl, by exact row_flat (i := i) (H.arg hL) (by first | omega | (simp only [List.length_cons, List.length_nil]; omega)) (by first | omega | (simp only [List.length_cons, List.length_nil]; omega)) (0, (0, 0))⟩, tv⟩ fun a w25 hA H hG => ?_
   refine list_at 3 ?_; refine q_alloc 3 10 92 [.int .i64 0, .int .i64 0, .int .i64 0] [(1, iv x), (2, iv y), (7, pv sb7), (8, (.map (some b11))), (17, vl), (18, iv (l.length : Int)), (19, iv i), (21, iv i), (23, .agg #[.int .i64 ((l.getD i.toNat (0, (0, 0))).1), .int .i64 (((l.getD i.toNat (0, (0, 0))).2).1), .int .i64 (((l.getD i.toNat (0, (0, 0))).2).2)])] hA H fun b26 a w27 H hA hG hge_b26 => ?_
   clear hge_b26
   refine q_list 4 1 [] [(1, iv x), (2, iv y), (7, pv sb7), (8, (.map (some b11))), (9, iv i), (10, pv b26), (17, vl), (18, iv (l.length : Int)), (19, iv i), (23, .agg #[.int .i64 ((l.getD i.toNat (0, (0, 0))).1), .int .i64 (((l.getD i.toNat (0, (0, 0))).2).1), .int .i64 (((l.getD i.toNat (0, (0, 0))).2).2)])] (TT ∧ True) hA H ⟨tv, tv⟩ fun a w28 hA H hG => ?_
   refine list_at 5 ?_; refine q_store 5 92 (.tmp 10) (.tmp 23) 0 b26 (0) 92 [.int .i64 0, .int .i64 0, .int .i64 0] [.int .i64 ((l.getD i.toNat (0, (0, 0))).1), .int .i64 (((l.getD i.toNat (0, (0, 0))).2).1), .int .i64 (((l.getD i.toNat (0, (0, 0))).2).2)] [.int .i64 ((l.getD i.toNat (0, (0, 0))).1), .int .i64 (((l.getD i.toNat (0, (0, 0))).2).1), .int .i64 (((l.getD i.toNat (0, (0, 0))).2).2)] (.agg #[.int .i64 ((l.getD i.toNat (0, (0, 0))).1), .int .i64 (((l.getD i.toNat (0, (0, 0))).2).1), .int .i64 (((l.getD i.toNat (0, (0, 0))).2).2)]) [(1, iv x), (2, iv y), (7, pv sb7), (8, (.map (some b11))), (9, iv i), (10, pv b26), (17, vl), (18, iv (l.length : Int)), (19, iv i)] hA H rfl rfl (Nat.le_of_ble_eq_true (by kernel_rfl)) rfl (fun v hv => by simp only [List.mem_cons, List.not_mem_nil, or_false] at hv; rcases hv with rfl | rfl | rfl; exact rfl; exact rfl; exact rfl) fun a w29 H hA hG => ?_
   replace H : Fr _ _ _ [.box b26 92 [.int .i64 ((l.getD i.toNat (0, (0, 0))).1), .int .i64 (((l.getD i.toNat (0, (0, 0))).2).1), .int .i64 (((l.getD i.toNat (0, (0, 0))).2).2)], .box sb7 156 [(.map (some pb8)), v1, v2, .int .i64 gg], mapN Try.prog 3 pb8 (idM i), .row 3 v1 (upto i), .row 3 v2 c, mapN Try.prog 3 b11 m] := H
   refine list_end ?_
   refine hK24 _ _ ?_
   refine go_seq fun K30 hK30 => ?_
   refine region_list ?_
   refine q_list 0 2 [] [(1, iv x), (2, iv y), (7, pv sb7), (8, (.map (some b11))), (9, iv i), (10, pv b26), (17, vl), (18, iv (l.length : Int)), (19, iv i), (24, pv sb7), (25, iv i)] (TT ∧ TT ∧ True) hA H ⟨tv, tv, tv⟩ fun a w31 hA H hG => ?_
   replace H := Fr.order [.box b26 92 [.int .i64 ((l.getD i.toNat (0, (0, 0))).1), .int .i64 (((l.getD i.toNat (0, (0, 0))).2).1), .int .i64 (((l.getD i.toNat (0, (0, 0))).2).2)], .box sb7 156 [(.map (some pb8)), v1, v2, .int .i64 gg], mapN Try.prog 3 pb8 (idM i), .row 3 v1 (upto i), .row 3 v2 c, mapN Try.prog 3 b11 m] [] H [1, 2, 3, 4, 0, 5] (by show List.Perm _ (List.range 6); decide)
   replace H : Fr _ _ _ [.box sb7 156 [(.map (some pb8)), v1, v2, .int .i64 gg], mapN Try.prog 3 pb8 (idM i), .row 3 v1 (upto i), .row 3 v2 c, .box b26 92 [.int .i64 ((l.getD i.toNat (0, (0, 0))).1), .int .i64 (((l.getD i.toNat (0, (0, 0))).2).1), .int .i64 (((l.getD i.toNat (0, (0, 0))).2).2)], mapN Try.prog 3 b11 m] := H
   refine list_at 2 ?_; refine q_any 2 26 110 #[.tmp 24, .tmp 25] #[132, 3] [.pointer (some ⟨sb7, 0, none⟩), .int .i64 i] _ [(1, iv x), (2, iv y), (7, pv sb7), (8, (.map (some b11))), (9, iv i), (10, pv b26), (17, vl), (18, iv (l.length : Int)), (19, iv i)] hA (add_any sb7 pb8 v1 v2 i c gg o _ [.box b26 92 [.int .i64 ((l.getD i.toNat (0, (0, 0))).1), .int .i64 (((l.getD i.toNat (0, (0, 0))).2).1), .int .i64 (((l.getD i.toNat (0, (0, 0))).2).2)], mapN Try.prog 3 b11 m]  _ H (by omega) (by omega) (by omega) hok (by omega) ) fun v32 a w33 hR34 hA => ?_
   obtain ⟨rfl, S, q35a, q35b, H⟩ := hR34
   replace H : Fr _ _ _ [.box sb7 156 [(.map (some pb8)), q35a, q35b, .int .i64 (gg + 1)], mapN Try.prog 3 pb8 (idM (i + 1)), .row 3 q35a (upto (i + 1)), .row 3 q35b (c ++ [i]), .box b26 92 [.int .i64 ((l.getD i.toNat (0, (0, 0))).1), .int .i64 (((l.getD i.toNat (0, (0, 0))).2).1), .int .i64 (((l.getD i.toNat (0, (0, 0))).2).2)], mapN Try.prog 3 b11 m] := H
   refine list_end ?_
   refine hK30 _ _ ?_
   refine go_seq fun K36 hK36 => ?_
   replace hcl := cl_add hcl h0
   refine region_list ?_
   refine q_list 0 4 [(28, iv ((l.getD i.toNat (0, (0, 0))).1)), (30, iv (((l.getD i.toNat (0, (0, 0))).2).1))] [(1, iv x), (2, iv y), (7, pv sb7), (8, (.map (some b11))), (9, iv i), (17, vl), (18, iv (l.length : Int)), (19, iv i), (28, iv ((l.getD i.toNat (0, (0, 0))).1)), (30, iv (((l.getD i.toNat (0, (0, 0))).2).1))] ((0 < Try.prog.cellsOf 3) ∧ (CellOk (On w33) b26 (0 + 0) (.int .i64 ((l.getD i.toNat (0, (0, 0))).1))) ∧ (0 < Try.prog.cellsOf 3) ∧ (CellOk (On w33) b26 (0 + 1) (.int .i64 (((l.getD i.toNat (0, (0, 0))).2).1))) ∧ True) hA H ⟨by decide +kernel, by exact box_cell H 4 rfl 0, by decide +kernel, by exact box_cell H 4 rfl 1, tv⟩ fun a w37 hA H hG => ?_
   refine list_at 4 ?_; refine q_lit 4 31 27 2 #[(0, .tmp 28), (1, .tmp 30)] 3 [(0, iv ((l.getD i.toNat (0, (0, 0))).1)), (1, iv (((l.getD i.toNat (0, (0, 0))).2).1))] [.int .i64 ((l.getD i.toNat (0, (0, 0))).1), .int .i64 (((l.getD i.toNat (0, (0, 0))).2).1)] [(1, iv x), (2, iv y), (7, pv sb7), (8, (.map (some b11))), (9, iv i), (17, vl), (18, iv (l.length : Int)), (19, iv i)] hA H fun b38 a w39 H hA hG hge_b38 => ?_
   clear hge_b38
   refine q_list 5 2 [(32, iv 2)] [(1, iv x), (2, iv y), (7, pv sb7), (8, (.map (some b11))), (9, iv i), (17, vl), (18, iv (l.length : Int)), (19, iv i), (31, (.slice (some ⟨b38, 0, none⟩) 2 2)), (32, iv 2), (33, iv 0)] ((LenOk (.slice (some ⟨b38, 0, none⟩) 2 2) 2) ∧ TT ∧ True) hA H ⟨⟨_, _, _, rfl, rfl⟩, tv, tv⟩ fun a w40 hA H hG => ?_
   refine list_end ?_
   refine hK36 _ _ ?_
   refine go_block 2 ?_
   replace H := Fr.order [.box b38 3 [.int .i64 ((l.getD i.toNat (0, (0, 0))).1), .int .i64 (((l.getD i.toNat (0, (0, 0))).2).1)], .box sb7 156 [(.map (some pb8)), q35a, q35b, .int .i64 (gg + 1)], mapN Try.prog 3 pb8 (idM (i + 1)), .row 3 q35a (upto (i + 1)), .row 3 q35b (c ++ [i]), .box b26 92 [.int .i64 ((l.getD i.toNat (0, (0, 0))).1), .int .i64 (((l.getD i.toNat (0, (0, 0))).2).1), .int .i64 (((l.getD i.toNat (0, (0, 0))).2).2)], mapN Try.prog 3 b11 m] [] H [1, 2, 3, 4, 0, 5, 6] (by show List.Perm _ (List.range 7); decide)
   replace H : Fr _ _ _ [.box sb7 156 [(.map (some pb8)), q35a, q35b, .int .i64 (gg + 1)], mapN Try.prog 3 pb8 (idM (i + 1)), .row 3 q35a (upto (i + 1)), .row 3 q35b (c ++ [i]), .box b38 3 [.int .i64 ((l.getD i.toNat (0, (0, 0))).1), .int .i64 (((l.getD i.toNat (0, (0, 0))).2).1)], .box b26 92 [.int .i64 ((l.getD i.toNat (0, (0, 0))).1), .int .i64 (((l.getD i.toNat (0, (0, 0))).2).1), .int .i64 (((l.getD i.toNat (0, (0, 0))).2).2)], mapN Try.prog 3 b11 m] := H
   refine go_loop_ (Int × List Int × Int × List (Int × Int)) (fun x_ a W => (fun (t : Int) (c2 : List Int) (g2 : Int) (m2 : List (Int × Int)) => EnvOk 63 a (keepEnv [(1, iv x), (2, iv y), (7, pv sb7), (8, (.map (some b11))), (9, iv i), (17, vl), (18, iv (l.length : Int)), (19, iv i), (31, (.slice (some ⟨b38, 0, none⟩) 2 2)), (32, iv 2), (33, iv t)]) ∧ (∃ S, Fr o W S [.box sb7 156 [(.map (some pb8)), q35a, q35b, .int .i64 g2], mapN Try.prog 3 pb8 (idM (i + 1)), .row 3 q35a (upto (i + 1)), .row 3 q35b c2, .box b38 3 [.int .i64 ((l.getD i.toNat (0, (0, 0))).1), .int .i64 (((l.getD i.toNat (0, (0, 0))).2).1)], .box b26 92 [.int .i64 ((l.getD i.toNat (0, (0, 0))).1), .int .i64 (((l.getD i.toNat (0, (0, 0))).2).1), .int .i64 (((l.getD i.toNat (0, (0, 0))).2).2)], mapN Try.prog 3 b11 m2]) ∧ 0 ≤ t ∧ t ≤ 2 ∧ ClI x y l i t c2 m2 (i + 1) ∧ (m2.length : Int) ≤ 2 * i + t ∧ -(2 * i + t) ≤ g2 ∧ g2 ≤ i + 1) x_.1 x_.2.1 x_.2.2.1 x_.2.2.2) (fun x_ => (fun (t : Int) (c2 : List Int) (g2 : Int) (m2 : List (Int × Int)) => (2 - t).toNat) x_.1 x_.2.1 x_.2.2.1 x_.2.2.2) (0, c ++ [i], gg + 1, m) ?_ (fun x_ a w42 hI => ?_)
   · (try dsimp only); exact ⟨env_sub _ hA, ⟨_, H⟩, by omega, by omega, hcl, by omega, by omega, by omega⟩
   obtain ⟨t, c2, g2, m2⟩ := x_
   obtain ⟨hA, ⟨S, H⟩, t0, t0b, hcl, hml2, hg2, hg3⟩ := hI
   try dsimp only at t0 t0b hcl hml2 hg2 hg3
   replace H : Fr _ _ _ [.box sb7 156 [(.map (some pb8)), q35a, q35b, .int .i64 g2], mapN Try.prog 3 pb8 (idM (i + 1)), .row 3 q35a (upto (i + 1)), .row 3 q35b c2, .box b38 3 [.int .i64 ((l.getD i.toNat (0, (0, 0))).1), .int .i64 (((l.getD i.toNat (0, (0, 0))).2).1)], .box b26 92 [.int .i64 ((l.getD i.toNat (0, (0, 0))).1), .int .i64 (((l.getD i.toNat (0, (0, 0))).2).1), .int .i64 (((l.getD i.toNat (0, (0, 0))).2).2)], mapN Try.prog 3 b11 m2] := H
   have hok := hcl.ok; have hul := hcl.len
   refine go_seq fun K43 hK43 => ?_
   refine q_reg [] [(1, iv x), (2, iv y), (7, pv sb7), (8, (.map (some b11))), (9, iv i), (17, vl), (18, iv (l.length : Int)), (19, iv i), (31, (.slice (some ⟨b38, 0, none⟩) 2 2)), (32, iv 2), (33, iv t), (34, .bool (decide (t < 2)))] (TT ∧ True) hA H ⟨tv, tv⟩ fun a w44 hA H hG => ?_
   refine hK43 _ _ ?_
   refine go_seq fun K45 hK45 => ?_
   refine go_cond hA (.tmp 34) (decide (t < 2)) (fun hb46 => ?_) (fun hb46 => ?_)
   · have hhb46 := of_decide_eq_true hb46
     refine go_skip ?_
     refine hK45 _ _ ?_
     refine go_seq fun K47 hK47 => ?_
     refine go_block 3 ?_
     refine go_seq fun K48 hK48 => ?_
     refine q_reg [(36, iv (([(l.getD i.toNat (0, (0, 0))).1, ((l.getD i.toNat (0, (0, 0))).2).1] : List Int).getD t.toNat 0))] [(1, iv x), (2, iv y), (7, pv sb7), (8, (.map (some b11))), (9, iv i), (12, iv (([(l.getD i.toNat (0, (0, 0))).1, ((l.getD i.toNat (0, (0, 0))).2).1] : List Int).getD t.toNat 0)), (17, vl), (18, iv (l.length : Int)), (19, iv i), (31, (.slice (some ⟨b38, 0, none⟩) 2 2)), (32, iv 2), (33, iv t)] (((Try.prog.info? 3).isSome = true ∧ IdxOk (.slice (some ⟨b38, 0, none⟩) 2 2) t) ∧ (CellOk (On w44) (hdB (.slice (some ⟨b38, 0, none⟩) 2 2)) (hdO (.slice (some ⟨b38, 0, none⟩) 2 2) + t.toNat * 1) (.int .i64 (([(l.getD i.toNat (0, (0, 0))).1, ((l.getD i.toNat (0, (0, 0))).2).1] : List Int).getD t.toNat 0))) ∧ TT ∧ True) hA H ⟨⟨by kernel_rfl, by exact idx_ok (H.lit 4 rfl (l := ([(l.getD i.toNat (0, (0, 0))).1, ((l.getD i.toNat (0, (0, 0))).2).1] : List Int)) (by exact ((RowRd.single (α := Int) (a := (l.getD i.toNat (0, (0, 0))).1) (by exact rfl)).append (RowRd.single (α := Int) (a := ((l.getD i.toNat (0, (0, 0))).2).1) (by exact rfl)))) (n := 2) rfl (by decide)) (by first | omega | (simp only [List.length_cons, List.length_nil]; omega)) (by first | omega | (simp only [List.length_cons, List.length_nil]; omega))⟩, by exact cell_flat (i := t) (H.lit 4 rfl (l := ([(l.getD i.toNat (0, (0, 0))).1, ((l.getD i.toNat (0, (0, 0))).2).1] : List Int)) (by exact ((RowRd.single (α := Int) (a := (l.getD i.toNat (0, (0, 0))).1) (by exact rfl)).append (RowRd.single (α := Int) (a := ((l.getD i.toNat (0, (0, 0))).2).1) (by exact rfl)))) (n := 2) rfl (by decide)) (by first | omega | (simp only [List.length_cons, List.length_nil]; omega)) (by first | omega | (simp only [List.length_cons, List.length_nil]; omega)) 0 0, tv, tv⟩ fun a w49 hA H hG => ?_
     refine hK48 _ _ ?_
     refine go_seq fun K50 hK50 => ?_
     refine go_seq fun K51 hK51 => ?_
     refine q_reg [] [(1, iv x), (2, iv y), (7, pv sb7), (8, (.map (some b11))), (9, iv i), (12, iv (([(l.getD i.toNat (0, (0, 0))).1, ((l.getD i.toNat (0, (0, 0))).2).1] : List Int).getD t.toNat 0)), (17, vl), (18, iv (l.length : Int)), (19, iv i), (31, (.slice (some ⟨b38, 0, none⟩) 2 2)), (32, iv 2), (33, iv t), (44, .bool ((decide ((([(l.getD i.toNat (0, (0, 0))).1, ((l.getD i.toNat (0, (0, 0))).2).1] : List Int).getD t.toNat 0) = x)) || (decide ((([(l.getD i.toNat (0, (0, 0))).1, ((l.getD i.toNat (0, (0, 0))).2).1] : List Int).getD t.toNat 0) = y))))] (TT ∧ TT ∧ TT ∧ TT ∧ ((decide ((([(l.getD i.toNat (0, (0, 0))).1, ((l.getD i.toNat (0, (0, 0))).2).1] : List Int).getD t.toNat 0) = x)) = false → True) ∧ ((decide ((([(l.getD i.toNat (0, (0, 0))).1, ((l.getD i.toNat (0, (0, 0))).2).1] : List Int).getD t.toNat 0) = x)) = false → True) ∧ ((decide ((([(l.getD i.toNat (0, (0, 0))).1, ((l.getD i.toNat (0, (0, 0))).2).1] : List Int).getD t.toNat 0) = x)) = false → True) ∧ TT ∧ True) hA H ⟨tv, tv, tv, tv, fun _ => tv, fun _ => tv, fun _ => tv, tv, tv⟩ fun a w52 hA H hG => ?_
     refine hK51 _ _ ?_
     refine go_cond hA (.tmp 44) ((decide ((([(l.getD i.toNat (0, (0, 0))).1, ((l.getD i.toNat (0, (0, 0))).2).1] : List Int).getD t.toNat 0) = x)) || (decide ((([(l.getD i.toNat (0, (0, 0))).1, ((l.getD i.toNat (0, (0, 0))).2).1] : List Int).getD t.toNat 0) = y))) (fun hb53 => ?_) (fun hb53 => ?_)
     · have hhb53 := (oT hb53).imp (fun h => of_decide_eq_true h) (fun h => of_decide_eq_true h)
       refine go_exit 3 ?_
       refine hK47 _ _ ?_
       refine q_reg [] [(1, iv x), (2, iv y), (7, pv sb7), (8, (.map (some b11))), (9, iv i), (17, vl), (18, iv (l.length : Int)), (19, iv i), (31, (.slice (some ⟨b38, 0, none⟩) 2 2)), (32, iv 2), (33, iv (t + 1))] ((InR .i64 (t + 1)) ∧ TT ∧ True) hA H ⟨⟨by omega, by omega⟩, tv, tv⟩ fun a w54 hA H hG => ?_
       refine ⟨(t + 1, c2, g2, m2), ⟨env_sub _ hA, ⟨_, H⟩, ?_⟩, ?_⟩
       · (try dsimp only); refine ⟨by omega, by omega, cl_skip hcl t0 (by omega) hhb53, by (try simp only [List.length_append, List.length_cons, List.length_nil]); omega, by omega, by omega⟩
       (try dsimp only); omega
     have hhb53 := (⟨of_decide_eq_false ((oF hb53).1), of_decide_eq_false ((oF hb53).2)⟩ : _ ∧ _)
     refine go_skip ?_
     refine hK50 _ _ ?_
     refine go_seq fun K55 hK55 => ?_
     have hbi := hb i h0 (by omega)
     have hbt : wfI (([(l.getD i.toNat (0, (0, 0))).1, (l.getD i.toNat (0, (0, 0))).2.1] : List Int).getD t.toNat 0) := pick_wf hbi t0 (by omega)
     unfold wfI at hbt
     refine q_reg [(48, .tuple #[.int .i64 ((lastAt m2 (([(l.getD i.toNat (0, (0, 0))).1, ((l.getD i.toNat (0, (0, 0))).2).1] : List Int).getD t.toNat 0)).getD 0), .bool ((lastAt m2 (([(l.getD i.toNat (0, (0, 0))).1, ((l.getD i.toNat (0, (0, 0))).2).1] : List Int).getD t.toNat 0)).isSome)])] [(1, iv x), (2, iv y), (7, pv sb7), (8, (.map (some b11))), (9, iv i), (12, iv (([(l.getD i.toNat (0, (0, 0))).1, ((l.getD i.toNat (0, (0, 0))).2).1] : List Int).getD t.toNat 0)), (13, iv ((lastAt m2 (([(l.getD i.toNat (0, (0, 0))).1, ((l.getD i.toNat (0, (0, 0))).2).1] : List Int).getD t.toNat 0)).getD 0)), (14, .bool ((lastAt m2 (([(l.getD i.toNat (0, (0, 0))).1, ((l.getD i.toNat (0, (0, 0))).2).1] : List Int).getD t.toNat 0)).isSome)), (17, vl), (18, iv (l.length : Int)), (19, iv i), (31, (.slice (some ⟨b38, 0, none⟩) 2 2)), (32, iv 2), (33, iv t)] (TT ∧ TT ∧ (∀ w', On w52 w' → (Instr.lookup 130 (.map (some b11)) (.int .i64 (([(l.getD i.toNat (0, (0, 0))).1, ((l.getD i.toNat (0, (0, 0))).2).1] : List Int).getD t.toNat 0)) true).run Try.prog w' = .ok (.tuple #[.int .i64 ((lastAt m2 (([(l.getD i.toNat (0, (0, 0))).1, ((l.getD i.toNat (0, (0, 0))).2).1] : List Int).getD t.toNat 0)).getD 0), .bool ((lastAt m2 (([(l.getD i.toNat (0, (0, 0))).1, ((l.getD i.toNat (0, (0, 0))).2).1] : List Int).getD t.toNat 0)).isSome)]) w') ∧ TT ∧ TT ∧ TT ∧ TT ∧ TT ∧ True) hA H ⟨tv, tv, by exact mapN_lookT H 6 rfl (obj_on H 6 rfl) ⟨by omega, by omega⟩ Try.underlying130 Try.underlying3 (fun w => by kernel_rfl), tv, tv, tv, tv, tv, tv⟩ fun a w56 hA H hG => ?_
     refine hK55 _ _ ?_
     refine go_seq fun K57 hK57 => ?_
     refine q_reg [] [(1, iv x), (2, iv y), (7, pv sb7), (8, (.map (some b11))), (9, iv i), (12, iv (([(l.getD i.toNat (0, (0, 0))).1, ((l.getD i.toNat (0, (0, 0))).2).1] : List Int).getD t.toNat 0)), (13, iv ((lastAt m2 (([(l.getD i.toNat (0, (0, 0))).1, ((l.getD i.toNat (0, (0, 0))).2).1] : List Int).getD t.toNat 0)).getD 0)), (17, vl), (18, iv (l.length : Int)), (19, iv i), (31, (.slice (some ⟨b38, 0, none⟩) 2 2)), (32, iv 2), (33, iv t), (51, .bool ((lastAt m2 (([(l.getD i.toNat (0, (0, 0))).1, ((l.getD i.toNat (0, (0, 0))).2).1] : List Int).getD t.toNat 0)).isSome))] (TT ∧ True) hA H ⟨tv, tv⟩ fun a w58 hA H hG => ?_
     refine hK57 _ _ ?_
     refine go_cond hA (.tmp 51) ((lastAt m2 (([(l.getD i.toNat (0, (0, 0))).1, ((l.getD i.toNat (0, (0, 0))).2).1] : List Int).getD t.toNat 0)).isSome) (fun hb59 => ?_) (fun hb59 => ?_)
     · have hhb59 := hb59
       have hw9 : ¬ ((([(l.getD i.toNat (0, (0, 0))).1, (l.getD i.toNat (0, (0, 0))).2.1] : List Int).getD t.toNat 0) = x ∨ (([(l.getD i.toNat (0, (0, 0))).1, (l.getD i.toNat (0, (0, 0))).2.1] : List Int).getD t.toNat 0) = y) := by have := hhb53; omega
       obtain ⟨f, hf⟩ := Option.isSome_iff_exists.1 hhb59
       have hfr := cl_range hcl h0 hf
       have hfg : (lastAt m2 (([(l.getD i.toNat (0, (0, 0))).1, (l.getD i.toNat (0, (0, 0))).2.1] : List Int).getD t.toNat 0)).getD 0 = f := by rw [hf]; rfl
       refine region_list ?_
       refine q_list 0 3 [] [(1, iv x), (2, iv y), (7, pv sb7), (8, (.map (some b11))), (9, iv i), (17, vl), (18, iv (l.length : Int)), (19, iv i), (31, (.slice (some ⟨b38, 0, none⟩) 2 2)), (32, iv 2), (33, iv t), (52, pv sb7), (53, iv ((lastAt m2 (([(l.getD i.toNat (0, (0, 0))).1, ((l.getD i.toNat (0, (0, 0))).2).1] : List Int).getD t.toNat 0)).getD 0)), (54, iv i)] (TT ∧ TT ∧ TT ∧ True) hA H ⟨tv, tv, tv, tv⟩ fun a w60 hA H hG => ?_
       refine list_at 3 ?_; refine q_any 3 55 111 #[.tmp 52, .tmp 53, .tmp 54] #[132, 3, 3] [.pointer (some ⟨sb7, 0, none⟩), .int .i64 ((lastAt m2 (([(l.getD i.toNat (0, (0, 0))).1, ((l.getD i.toNat (0, (0, 0))).2).1] : List Int).getD t.toNat 0)).getD 0), .int .i64 i] _ [(1, iv x), (2, iv y), (7, pv sb7), (8, (.map (some b11))), (9, iv i), (17, vl), (18, iv (l.length : Int)), (19, iv i), (31, (.slice (some ⟨b38, 0, none⟩) 2 2)), (32, iv 2), (33, iv t)] hA (join_any sb7 pb8 q35a q35b (i + 1) c2 g2 o _ [.box b38 3 [.int .i64 ((l.getD i.toNat (0, (0, 0))).1), .int .i64 (((l.getD i.toNat (0, (0, 0))).2).1)], .box b26 92 [.int .i64 ((l.getD i.toNat (0, (0, 0))).1), .int .i64 (((l.getD i.toNat (0, (0, 0))).2).1), .int .i64 (((l.getD i.toNat (0, (0, 0))).2).2)], mapN Try.prog 3 b11 m2] ((lastAt m2 (([(l.getD i.toNat (0, (0, 0))).1, ((l.getD i.toNat (0, (0, 0))).2).1] : List Int).getD t.toNat 0)).getD 0) i _ H (by omega) (by omega) (by omega) hok (by omega) (by omega) (by omega) (by omega) (by omega)) fun v61 a w62 hR63 hA => ?_
       obtain ⟨S, q64b, q64u, q64g, rfl, ⟨hul, hok, hjn⟩, hgb, H⟩ := hR63
       replace H : Fr _ _ _ [.box sb7 156 [(.map (some pb8)), q35a, q35b, .int .i64 q64g], mapN Try.prog 3 pb8 (idM (i + 1)), .row 3 q35a (upto (i + 1)), .row 3 q35b q64u, .box b38 3 [.int .i64 ((l.getD i.toNat (0, (0, 0))).1), .int .i64 (((l.getD i.toNat (0, (0, 0))).2).1)], .box b26 92 [.int .i64 ((l.getD i.toNat (0, (0, 0))).1), .int .i64 (((l.getD i.toNat (0, (0, 0))).2).1), .int .i64 (((l.getD i.toNat (0, (0, 0))).2).2)], mapN Try.prog 3 b11 m2] := H
       refine list_end ?_
       refine hK47 _ _ ?_
       refine q_reg [] [(1, iv x), (2, iv y), (7, pv sb7), (8, (.map (some b11))), (9, iv i), (17, vl), (18, iv (l.length : Int)), (19, iv i), (31, (.slice (some ⟨b38, 0, none⟩) 2 2)), (32, iv 2), (33, iv (t + 1))] ((InR .i64 (t + 1)) ∧ TT ∧ True) hA H ⟨⟨by omega, by omega⟩, tv, tv⟩ fun a w65 hA H hG => ?_
       refine ⟨(t + 1, q64u, q64g, m2), ⟨env_sub _ hA, ⟨_, H⟩, ?_⟩, ?_⟩
       · (try dsimp only); refine ⟨by omega, by omega, cl_join hcl t0 (by omega) h0 hw9 hf hul hok (by rw [hfg] at hjn; exact hjn), by (try simp only [List.length_append, List.length_cons, List.length_nil]); omega, by omega, by omega⟩
       (try dsimp only); omega
     have hhb59 := hb59
     have hw9 : ¬ ((([(l.getD i.toNat (0, (0, 0))).1, (l.getD i.toNat (0, (0, 0))).2.1] : List Int).getD t.toNat 0) = x ∨ (([(l.getD i.toNat (0, (0, 0))).1, (l.getD i.toNat (0, (0, 0))).2.1] : List Int).getD t.toNat 0) = y) := by have := hhb53; omega
     have hf : lastAt m2 (([(l.getD i.toNat (0, (0, 0))).1, (l.getD i.toNat (0, (0, 0))).2.1] : List Int).getD t.toNat 0) = none := by have := hhb59; simpa using this
     refine region_list ?_
     refine q_list 0 3 [] [(1, iv x), (2, iv y), (7, pv sb7), (8, (.map (some b11))), (9, iv i), (17, vl), (18, iv (l.length : Int)), (19, iv i), (31, (.slice (some ⟨b38, 0, none⟩) 2 2)), (32, iv 2), (33, iv t), (56, (.map (some b11))), (57, iv (([(l.getD i.toNat (0, (0, 0))).1, ((l.getD i.toNat (0, (0, 0))).2).1] : List Int).getD t.toNat 0)), (58, iv i)] (TT ∧ TT ∧ TT ∧ True) hA H ⟨tv, tv, tv, tv⟩ fun a w66 hA H hG => ?_
     refine list_at 3 ?_; refine q_mapUpdateN 3 130 (.tmp 56) (.tmp 57) (.tmp 58) 6 b11 m2 (([(l.getD i.toNat (0, (0, 0))).1, ((l.getD i.toNat (0, (0, 0))).2).1] : List Int).getD t.toNat 0) i [(1, iv x), (2, iv y), (7, pv sb7), (8, (.map (some b11))), (9, iv i), (17, vl), (18, iv (l.length : Int)), (19, iv i), (31, (.slice (some ⟨b38, 0, none⟩) 2 2)), (32, iv 2), (33, iv t)] hA H rfl ⟨by omega, by omega⟩ (by (try simp only [List.length_append, List.length_cons, List.length_nil]); omega) Try.underlying130 Try.underlying3 fun a w67 H hA hG => ?_
     replace H : Fr _ _ _ [.box sb7 156 [(.map (some pb8)), q35a, q35b, .int .i64 g2], mapN Try.prog 3 pb8 (idM (i + 1)), .row 3 q35a (upto (i + 1)), .row 3 q35b c2, .box b38 3 [.int .i64 ((l.getD i.toNat (0, (0, 0))).1), .int .i64 (((l.getD i.toNat (0, (0, 0))).2).1)], .box b26 92 [.int .i64 ((l.getD i.toNat (0, (0, 0))).1), .int .i64 (((l.getD i.toNat (0, (0, 0))).2).1), .int .i64 (((l.getD i.toNat (0, (0, 0))).2).2)], mapN Try.prog 3 b11 (m2 ++ [((([(l.getD i.toNat (0, (0, 0))).1, ((l.getD i.toNat (0, (0, 0))).2).1] : List Int).getD t.toNat 0), i)])] := H
     refine list_end ?_
     refine hK47 _ _ ?_
     refine q_reg [] [(1, iv x), (2, iv y), (7, pv sb7), (8, (.map (some b11))), (9, iv i), (17, vl), (18, iv (l.length : Int)), (19, iv i), (31, (.slice (some ⟨b38, 0, none⟩) 2 2)), (32, iv 2), (33, iv (t + 1))] ((InR .i64 (t + 1)) ∧ TT ∧ True) hA H ⟨⟨by omega, by omega⟩, tv, tv⟩ fun a w68 hA H hG => ?_
     refine ⟨(t + 1, c2, g2, m2 ++ [((([(l.getD i.toNat (0, (0, 0))).1, ((l.getD i.toNat (0, (0, 0))).2).1] : List Int).getD t.toNat 0), i)]), ⟨env_sub _ hA, ⟨_, H⟩, ?_⟩, ?_⟩
     · (try dsimp only); refine ⟨by omega, by omega, cl_put hcl t0 (by omega) hw9 hf, by (try simp only [List.length_append, List.length_cons, List.length_nil]); omega, by omega, by omega⟩
     (try dsimp only); omega
   have hhb46 := of_decide_eq_false hb46
   refine go_exit 2 ?_
   refine hK23 _ _ ?_
   refine q_reg [] [(1, iv x), (2, iv y), (7, pv sb7), (8, (.map (some b11))), (17, vl), (18, iv (l.length : Int)), (19, iv (i + 1))] ((InR .i64 (i + 1)) ∧ TT ∧ True) hA H ⟨⟨by omega, by omega⟩, tv, tv⟩ fun a w69 hA H hG => ?_
   replace H := H.drop 5
   replace H := H.drop 4
   refine ⟨(i + 1, q35a, q35b, c2, g2, m2), ⟨env_sub _ hA, ⟨_, H⟩, ?_⟩, ?_⟩
   · (try dsimp only); refine ⟨by omega, by omega, by have hz := hcl; rw [show t = 2 by omega] at hz; exact cl_next hz h0, by omega, by omega, by omega⟩
   (try dsimp only); omega
 have hhb22 := of_decide_eq_false hb22
 refine go_exit 0 ?_
 refine hK14 _ _ ?_
 refine go_seq fun K70 hK70 => ?_
 refine region_list ?_
 refine q_list 0 1 [] [(61, pv sb7)] (TT ∧ True) hA H ⟨tv, tv⟩ fun a w71 hA H hG => ?_
 refine list_at 1 ?_; refine q_any 1 62 112 #[.tmp 61] #[132] [.pointer (some ⟨sb7, 0, none⟩)] _ [] hA (groups_any sb7 pb8 v1 v2 i c gg o _ [mapN Try.prog 3 b11 m] _ H (by omega) (by omega) (by omega) hok (by omega)) fun v72 a w73 hR74 hA => ?_
 obtain ⟨S, H⟩ := hR74
 replace H : Fr _ _ _ [.row 27 v72 (groupsR (rootL c) i), mapN Try.prog 3 b11 m] := H
 refine q_list 2 1 [] [(6, v72)] (TT ∧ True) hA H ⟨tv, tv⟩ fun a w75 hA H hG => ?_
 refine list_end ?_
 refine hK70 _ _ ?_
 refine go_ret_ ?_
 refine ret_one 6 v72 hA ?_
 have hi9 : i = (l.length : Int) := by omega
 rw [hi9] at hcl H; rw [cl_end hcl] at H
 exact ⟨_, rfl, H.give 0 rfl, H.below⟩
end Go.Proofs.Ytahonnlgkmimlaa
namespace Go.Proofs.Ytahonnlgkmimlaa
open Go.RowKit Go.Proofs.Ytahonnlgkmimlaa.Deep
abbrev awBE : List (Int × Int) := [(0, 1), (1, 2), (2, 0), (2, 3), (3, 4), (4, 2), (0, 0)]
def sumI (bs : List (List Int × List Int)) : Int := ((bs.map fun b => b.2.length).sum : Nat)
section
variable {n : Int} {E : List (Int × Int)} {V L : List Int}
end
abbrev dk : Lk := (0, (0, 0))
def endsK (l : List Lk) : List Int := l.flatMap fun x => [x.1, x.2.1]
def vertsL (l : List Lk) : List Int := Lib.compact (sortL (endsK l))
def WfL (l : List Lk) : Prop := ∀ i, 0 ≤ i → i < (l.length : Int) → wfI (lkA l i) ∧ wfI (lkB l i) ∧ wfI (lkI l i)
theorem endsK_len (l : List Lk) : (endsK l).length = 2 * l.length := by
 unfold endsK
 induction l with
 | nil => rfl
 | cons x l ih => rw [List.flatMap_cons, List.length_append, ih]; simp; omega
theorem take_snocK {l : List Lk} {i : Int} (h0 : 0 ≤ i) (h1 : i < (l.length : Int)) : l.take (i + 1).toNat = l.take i.toNat ++ [l.getD i.toNat (0, (0, 0))] := take_snocD h0 h1
theorem endsK_snoc {l : List Lk} {i : Int} (h0 : 0 ≤ i) (h1 : i < (l.length : Int)) : endsK (l.take (i + 1).toNat) = endsK (l.take i.toNat) ++ [lkA l i, lkB l i] := by
 rw [take_snocK h0 h1]; unfold endsK; rw [List.flatMap_append]; simp [lkA, lkB]
def cntO (L : List Int) (v : Int) : Option Int := if v ∈ L then some ((L.count v : Nat) : Int) else none
theorem cntO_get (L : List Int) (v : Int) : (cntO L v).getD 0 = ((L.count v : Nat) : Int) := by
 unfold cntO; split
 · rfl
 rename_i h; rw [List.count_eq_zero.2 h]; rfl
theorem cnt_put {m : List (Int × Int)} {L : List Int} (h : ∀ v, lastAt m v = cntO L v) (x : Int) : ∀ v, lastAt (m ++ [(x, (lastAt m x).getD 0 + 1)]) v = cntO (L ++ [x]) v := by
 intro v
 rw [lastAt_snoc, h x, cntO_get]
 by_cases e : x = v
 · subst e
   show (if x = x then _ else _) = _
   rw [if_pos rfl]
   unfold cntO
   rw [if_pos (by simp), List.count_append, List.count_singleton]
   simp
 show (if x = v then _ else _) = _
 rw [if_neg e, h v]
 unfold cntO
 rw [List.count_append, List.count_singleton]
 have e2 : (x == v) = false := by simpa using e
 simp [Ne.symm e, e2]
theorem cnt_bd {m : List (Int × Int)} {L : List Int} (h : ∀ v, lastAt m v = cntO L v) (x : Int) : 0 ≤ (lastAt m x).getD 0 ∧ (lastAt m x).getD 0 ≤ (L.length : Int) := by
 rw [h x, cntO_get]
 have := List.count_le_length (a := x) (l := L)
 omega
def ringsB (l : List Lk) : Bool := decide (∀ v ∈ endsK l, (endsK l).count v = 2)
theorem rings_F {m : List (Int × Int)} {l : List Lk} (h : ∀ v, lastAt m v = cntO (endsK l) v) {k c : Int} (hk : lastAt m k = some c) (hc : c ≠ 2) : ringsB l = false := by
 refine decide_eq_false fun q => hc ?_
 rw [h k] at hk
 unfold cntO at hk
 split at hk
 · rename_i hm; cases hk; rw [q k hm]; rfl
 cases hk
theorem rings_T {m : List (Int × Int)} {l : List Lk} (h : ∀ v, lastAt m v = cntO (endsK l) v) (hd : ∀ k c, lastAt m k = some c → c = 2) : ringsB l = true := by
 refine decide_eq_true fun v hv => ?_
 have := hd v ((endsK l).count v : Nat) (by rw [h v]; unfold cntO; rw [if_pos hv])
 omega
def okLk (l : List Lk) (i : Nat) : Prop := (∀ j, j < i → (l.getD j (0, (0, 0))).2.2 ≠ (l.getD i (0, (0, 0))).2.2) ∧ 0 ≤ (l.getD i (0, (0, 0))).1 ∧ 0 ≤ (l.getD i (0, (0, 0))).2.1 ∧ (l.getD i (0, (0, 0))).1 ≠ (l.getD i (0, (0, 0))).2.1 ∧ max (l.getD i (0, (0, 0))).1 (l.getD i (0, (0, 0))).2.1 < 1024
instance (l : List Lk) (i : Nat) : Decidable (okLk l i) := by unfold okLk; infer_instance
def okWh (l : List Lk) : Prop := ∀ i, i < l.length → okLk l i
instance (l : List Lk) : Decidable (okWh l) := by unfold okWh; infer_instance
def nK (l : List Lk) : Int := l.foldl (fun n x => max (max n (x.1 + 1)) (x.2.1 + 1)) 0
def eK (l : List Lk) : List (Int × Int) := l.map fun x => (x.1, x.2.1)
theorem nK_snoc {l : List Lk} {i : Int} (h0 : 0 ≤ i) (h1 : i < (l.length : Int)) : nK (l.take (i + 1).toNat) = max (max (nK (l.take i.toNat)) ((l.getD i.toNat (0, (0, 0))).1 + 1)) ((l.getD i.toNat (0, (0, 0))).2.1 + 1) := by
 rw [take_snocK h0 h1]; unfold nK; rw [List.foldl_append]; rfl
theorem eK_snoc {l : List Lk} {i : Int} (h0 : 0 ≤ i) (h1 : i < (l.length : Int)) : eK (l.take (i + 1).toNat) = eK (l.take i.toNat) ++ [((l.getD i.toNat (0, (0, 0))).1, (l.getD i.toNat (0, (0, 0))).2.1)] := by
 rw [take_snocK h0 h1]; unfold eK; rw [List.map_append]; rfl
def idsK (l : List Lk) : List Int := l.map fun x => x.2.2
theorem mem_idsK {l : List Lk} {i : Nat} (hi : i ≤ l.length) {x : Int} : x ∈ idsK (l.take i) ↔ ∃ j, j < i ∧ (l.getD j (0, (0, 0))).2.2 = x := by
 unfold idsK
 rw [List.mem_map]
 constructor
 · rintro ⟨y, hy, rfl⟩
   obtain ⟨j, hj, rfl⟩ := List.getElem_of_mem hy
   rw [List.length_take] at hj
   refine ⟨j, by omega, ?_⟩
   rw [List.getElem_take, List.getD_eq_getElem?_getD, List.getElem?_eq_getElem (by omega)]; rfl
 rintro ⟨j, hj, rfl⟩
 refine ⟨l.getD j (0, (0, 0)), ?_, rfl⟩
 rw [List.getD_eq_getElem?_getD, List.getElem?_eq_getElem (by omega)]
 exact List.mem_iff_getElem.2 ⟨j, by rw [List.length_take]; omega, by rw [List.getElem_take]; rfl⟩
theorem idsK_snoc {l : List Lk} {i : Int} (h0 : 0 ≤ i) (h1 : i < (l.length : Int)) : idsK (l.take (i + 1).toNat) = idsK (l.take i.toNat) ++ [(l.getD i.toNat (0, (0, 0))).2.2] := by
 rw [take_snocK h0 h1]; unfold idsK; rw [List.map_append]; rfl
def wholeR (l : List Lk) : ((Int × List (Int × Int)) × (List Int × List Int)) × Bool :=
 if okWh l then ((nK l, eK l), (spanE (nK l) (eK l) (upto (l.length : Int))).1, decide ((spanE (nK l) (eK l) (upto (l.length : Int))).2 = 0)) |> fun x => ((x.1, x.2.1), x.2.2) else (((0, []), ([], [])), false)
theorem wholeR_bad {l : List Lk} {i : Nat} (hi : i < l.length) (h : ¬ okLk l i) : wholeR l = (((0, []), ([], [])), false) := by unfold wholeR; rw [if_neg fun q => h (q i hi)]
theorem wholeR_ok {l : List Lk} (h : okWh l) : wholeR l = (((nK l, eK l), (spanE (nK l) (eK l) (upto (l.length : Int))).1), decide ((spanE (nK l) (eK l) (upto (l.length : Int))).2 = 0)) := by unfold wholeR; rw [if_pos h]
theorem put_ids {m : List (Int × Int)} {L : List Int} (h : ∀ v, (lastAt m v).isSome = true ↔ v ∈ L) (x y : Int) : ∀ v, (lastAt (m ++ [(x, y)]) v).isSome = true ↔ v ∈ L ++ [x] := by
 intro v
 rw [lastAt_snoc]
 show ((if x = v then some y else lastAt m v)).isSome = true ↔ _
 by_cases e : x = v
 · rw [if_pos e]; simp [e]
 rw [if_neg e, h v]; simp [Ne.symm e]
def rightK (l : List Lk) : Bool := (wholeR l).2 && solidB (wholeR l).1.1.1 (wholeR l).1.1.2 (wholeR l).1.2.1 (wholeR l).1.2.2
theorem nK_bd {l : List Lk} (h : okWh l) : ∀ k : Nat, k ≤ l.length → 0 ≤ nK (l.take k) ∧ nK (l.take k) ≤ 1024
 | 0, _ => by simp [nK]
 | k + 1, hk => by
   have ih := nK_bd h k (by omega)
   have e := nK_snoc (l := l) (i := (k : Int)) (by omega) (by omega)
   rw [show ((k : Int) + 1).toNat = k + 1 by omega, Int.toNat_natCast] at e
   have := h k (by omega)
   unfold okLk at this
   rw [e]; omega
theorem range_step {m : List (Int × Int)} {left left' : Lit → Bool} {k0 c0 : Int} (hl : ∀ z, left' (.int .i64 z) = (left (.int .i64 z) && !decide (z = k0))) (hc : lastAt m k0 = some c0) (h : ∀ k c, lastAt m k = some c → left (.int .i64 k) = false → c = 2) (h2 : c0 = 2) :
   ∀ k c, lastAt m k = some c → left' (.int .i64 k) = false → c = 2 := by
 intro k c hk hf
 by_cases q : k = k0
 · subst q; rw [hc] at hk; cases hk; exact h2
 rw [hl] at hf; exact h k c hk (by simpa [q] using hf)
theorem nK_bd2 {l : List Lk} {i : Int} (hi : i ≤ (l.length : Int)) (h : ∀ j : Nat, (j : Int) < i → okLk l j) : 0 ≤ nK (l.take i.toNat) ∧ nK (l.take i.toNat) ≤ 1024 := by
 have key : ∀ k : Nat, (k : Int) ≤ i → 0 ≤ nK (l.take k) ∧ nK (l.take k) ≤ 1024 := by
   intro k
   induction k with
   | zero => intro _; simp [nK]
   | succ k ih =>
     intro hk
     have ih := ih (by omega)
     have e := nK_snoc (l := l) (i := (k : Int)) (by omega) (by omega)
     rw [show ((k : Int) + 1).toNat = k + 1 by omega, Int.toNat_natCast] at e
     have := h k (by omega)
     unfold okLk at this
     rw [e]; omega
 by_cases h0 : 0 ≤ i
 · exact key i.toNat (by omega)
 rw [show i.toNat = 0 by omega]; simp [nK]
theorem okLk_iff {l : List Lk} {m : List (Int × Int)} {i : Int} (hi : 0 ≤ i ∧ i < (l.length : Int)) (hid : ∀ x, (lastAt m x).isSome = true ↔ x ∈ idsK (l.take i.toNat)) :
   okLk l i.toNat ↔ ¬ (lastAt m (l.getD i.toNat (0, (0, 0))).2.2).isSome = true ∧ 0 ≤ (l.getD i.toNat (0, (0, 0))).1 ∧ 0 ≤ (l.getD i.toNat (0, (0, 0))).2.1 ∧ (l.getD i.toNat (0, (0, 0))).1 ≠ (l.getD i.toNat (0, (0, 0))).2.1 ∧ max (l.getD i.toNat (0, (0, 0))).1 (l.getD i.toNat (0, (0, 0))).2.1 < 1024 := by
 unfold okLk
 rw [hid, mem_idsK (by omega)]
 constructor
 · rintro ⟨a, b⟩; exact ⟨fun ⟨j, hj, e⟩ => a j hj e, b⟩
 rintro ⟨a, b⟩; exact ⟨fun j hj e => a ⟨j, hj, e⟩, b⟩
theorem rd_gp {α : Type} [Data α] {S : Stab} {w : World} {n : Int} {v : Value} {l : List α} (h : Rd S w v l) : Rd S w (.agg #[.int .i64 n, v]) (n, l) :=
 ⟨[.int .i64 n, v], ⟨[.int .i64 n], [v], rfl, rfl, ⟨v, rfl, rd_slice h⟩⟩, rfl⟩
theorem gp_rd {α : Type} [Data α] {S : Stab} {w : World} {v : Value} {x : Int × List α} (h : Rd S w v x) : ∃ e, v = .agg #[.int .i64 x.1, e] ∧ Rd S w e x.2 := by
 obtain ⟨cs, ⟨c1, c2, rfl, rfl, e, rfl, h2⟩, rfl⟩ := h
 exact ⟨e, rfl, slice_rd h2⟩
theorem whole_bd (l : List Lk) : 0 ≤ (wholeR l).1.1.1 ∧ (wholeR l).1.1.1 ≤ 1024 := by
 by_cases h : okWh l
 · rw [wholeR_ok h]; have := nK_bd h l.length (Nat.le_refl _); rw [List.take_length] at this; exact this
 unfold wholeR; rw [if_neg h]; simp
theorem whole_len {l : List Lk} (hs : l.length ≤ 100000) : (wholeR l).1.1.2.length ≤ 100000 := by
 by_cases h : okWh l
 · rw [wholeR_ok h]; simpa [eK] using hs
 unfold wholeR; rw [if_neg h]; simp
theorem verts_len (l : List Lk) : (vertsL l).length ≤ 2 * l.length := by
 unfold vertsL
 have h := compact_sort (endsK l)
 have := nodup_le (asc_nodup h.1) (fun x hx => (h.2 x).1 hx)
 rw [endsK_len] at this; exact this
def pclassesE (l : List Lk) (x y : Int) : List (List Int) := if ((decide (x = y) || !hasB (vertsL l) x) || !hasB (vertsL l) y) || !rightK l then [] else classesL l x y
theorem pclassesE_ok {l : List Lk} {x y : Int} (h : ((¬ x = y ∧ hasB (vertsL l) x = true) ∧ hasB (vertsL l) y = true) ∧ rightK l = true) : pclassesE l x y = classesL l x y := by
 unfold pclassesE
 rw [if_neg]
 intro q
 simp only [Bool.or_eq_true, decide_eq_true_eq, Bool.not_eq_true'] at q
 simp [h.1.1.1, h.1.1.2, h.1.2, h.2] at q
theorem pclassesE_no {l : List Lk} {x y : Int} (h : ((x = y ∨ hasB (vertsL l) x = false) ∨ hasB (vertsL l) y = false) ∨ rightK l = false) : pclassesE l x y = [] := by
 unfold pclassesE
 rw [if_pos]
 simp only [Bool.or_eq_true, decide_eq_true_eq, Bool.not_eq_true']
 exact h
theorem max3_ok {P : Program} {ats : Array TypeId} {k : IntKind} {a b c : Int} (ty : TypeId) (w : World) : (Builtin.max_ ats ty [.int k a, .int k b, .int k c].toArray).run P w = .ok (.int k (max (max a b) c)) w := by
 have e : (if b > a then b else a) = max a b := by split <;> omega
 have e2 : (if c > max a b then c else max a b) = max (max a b) c := by split <;> omega
 simp [Builtin.max_, Builtin.max2, e, e2]
section
variable {P : Program} {Q : Post} {a : Act} {w : World}
theorem ret_cells3 {fn : Func} {R : Ending → World → Prop} {n : Nat} {env : Env} {o : Orig} {S : Stab} {rs : List Res} (t t' t2 ty ty' j j' b b' : Nat) (e e' : TypeId) (vs vs' : List Value) (us us' : Array Value) (v2 : Value) (ha : EnvOk n a env) (H : Fr o w S rs) (hj : rs[j]? = some (.box b e vs)) (hj' : rs[j']? = some (.box b' e' vs'))
   (k : R (.returned (.tuple #[.agg us, .agg us', v2])) w)
   (hu : vs.toArray = us := by kernel_rfl) (hu' : vs'.toArray = us' := by kernel_rfl) (hr : fn.results = #[.cell t ty, .cell t' ty', .tmp t2] := by kernel_rfl) (hv : getOp env [] (.tmp t) = some (.pointer (some ⟨b, 0, none⟩)) := by kernel_rfl) (hv' : getOp env [] (.tmp t') = some (.pointer (some ⟨b', 0, none⟩)) := by kernel_rfl) (hv2 : getOp env [] (.tmp t2) = some v2 := by kernel_rfl)
   (ht : ∃ fs, P.underlying ty = some (.struct fs)) (ht' : ∃ fs, P.underlying ty' = some (.struct fs)) (hsz : P.cellsOf ty = vs.length := by kernel_rfl) (hsz' : P.cellsOf ty' = vs'.length := by kernel_rfl) (hi : (P.info? ty).isSome = true := by kernel_rfl) (hi' : (P.info? ty').isSome = true := by kernel_rfl) : bodyPost P fn R .ret a w := by
 have hnil : chOk a [] := fun l hl => by simp at hl
 refine bodyPost_ret (v := .tuple #[.agg us, .agg us', v2]) ?_ ha.2.1 k
 have h1 := getOp_ok ha hnil _ _ hv
 have h1' := getOp_ok ha hnil _ _ hv'
 have h2 := getOp_ok ha hnil _ _ hv2
 simp only [Act.eval, Array.getD_eq_getD_getElem?] at h1 h1' h2
 obtain ⟨fs, ht⟩ := ht
 obtain ⟨fs', ht'⟩ := ht'
 have hb := box_row H j hj 0 (P.cellsOf ty) (us := us) (by rw [← hu, hsz]; simp) (by rw [List.drop_zero, hsz, List.take_length]; exact hu)
 have hl := evOp_len (P := P) (C := On w) (us := us) w ⟨rfl, rfl, rfl, Nat.le_refl _, fun _ _ => rfl⟩ ht ⟨fs, rfl⟩ hi hb
 have hl' : (loadVar ty ⟨b, 0, none⟩).run P w = .ok (.agg us) w := by simpa [Instr.loadAt, Instr.sureAddr] using hl
 have hb2 := box_row H j' hj' 0 (P.cellsOf ty') (us := us') (by rw [← hu', hsz']; simp) (by rw [List.drop_zero, hsz', List.take_length]; exact hu')
 have hl2 := evOp_len (P := P) (C := On w) (us := us') w ⟨rfl, rfl, rfl, Nat.le_refl _, fun _ _ => rfl⟩ ht' ⟨fs', rfl⟩ hi' hb2
 have hl2' : (loadVar ty' ⟨b', 0, none⟩).run P w = .ok (.agg us') w := by simpa [Instr.loadAt, Instr.sureAddr] using hl2
 simp [results, hr, h1, h1', h2, asAddr, hl', hl2']
end
def ButL (w : World) (ms : List Nat) (w' : World) : Prop := w.heap.size ≤ w'.heap.size ∧ ∀ k, k < w.heap.size → k ∉ ms → w'.heap[k]? = w.heap[k]?
theorem ButL.drew (w : World) (ms : List Nat) : ButL w ms { w with drawn := w.drawn + 1 } := ⟨Nat.le_refl _, fun _ _ _ => rfl⟩
theorem ButL.grown {w w1 w2 : World} {ms : List Nat} {row : Option Nat} (h : ButL w ms w1) (hg : w1.grownBy w2 row) (hr : ∀ b, row = some b → b ∈ ms ∨ w.heap.size ≤ b) : ButL w ms w2 := by
 refine ⟨Nat.le_trans h.1 hg.size, fun k hk hm => ?_⟩
 rw [hg.block k (Nat.lt_of_lt_of_le hk h.1) (fun e => by
   rcases hr k e.symm with h1 | h1
   · exact hm h1
   omega)]
 exact h.2 k hk hm
theorem ButL.below {w w1 w2 : World} {ms : List Nat} (h : ButL w ms w1) (hb : Below w1.heap.size w1 w2) : ButL w ms w2 :=
 ⟨Nat.le_trans h.1 hb.size, fun k hk hm => (hb.block k (Nat.lt_of_lt_of_le hk h.1)).trans (h.2 k hk hm)⟩
theorem Fr.keepsL {o : Orig} {w : World} {S : Stab} {rs : List Res} (H : Fr o w S rs) (ms : List Nat) (hm : ∀ b ∈ ms, ∃ r ∈ rs, r.block = some b) : ∀ w', ButL w ms w' → Keeps (Old o S) w w' := by
 intro w' hw' k hk
 refine hw'.2 k (H.old hk) fun e => ?_
 obtain ⟨r, hr, hb⟩ := hm k e
 obtain ⟨h1, h2, h3⟩ := H.own r hr k hb
 rcases hk with hk | hk
 · omega
 exact h3 hk
theorem Fr.in_ {rs : List Res} {b : Nat} (j : Nat) {r : Res} (h : rs[j]? = some r) (hb : r.block = some b) : ∃ r ∈ rs, r.block = some b := ⟨r, List.mem_of_getElem? h, hb⟩
theorem box_atL {o : Orig} {w : World} {S : Stab} {rs : List Res} (H : Fr o w S rs) (ms : List Nat) (j : Nat) {b : Nat} {t : TypeId} {vs : List Value} (hj : rs[j]? = some (.box b t vs)) (hm : b ∉ ms) :
   ∀ w', ButL w ms w' → w'.heap[b]? = some (.cells vs.toArray t (0, 0)) := by
 intro w' hw'
 have h : w.heap[b]? = some (.cells vs.toArray t (0, 0)) := H.ok _ (List.mem_of_getElem? hj)
 rw [hw'.2 b (H.own _ (List.mem_of_getElem? hj) b rfl).2.1 hm]
 exact h
end Go.Proofs.Ytahonnlgkmimlaa
