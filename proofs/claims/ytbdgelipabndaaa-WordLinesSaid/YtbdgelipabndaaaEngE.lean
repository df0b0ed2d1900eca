/-
  More steps that a program writes: pieces of strings, new rows and boxes, appends. No program in sight.
-/
import Derived.Test.YtbdgelipabndaaaEngD
set_option linter.unusedSimpArgs false
set_option linter.unusedVariables false
namespace Go.Proofs.Ytbdgelipabndaaa
open Go.RowKit

theorem width_pos (s : ByteArray) (pos : Nat) (h : pos < s.size) : 1 ≤ (Utf8.decode s pos).2 := by
  by_cases ha : (s[pos]'h).toNat < 128
  · rw [decode_ascii s pos h ha]
    exact Nat.le_refl _
  · exact (decode_high s pos h (by omega)).2

section
variable {P : Program}

theorem slice_str_lh {t : TypeId} {s : ByteArray} {k k' : IntKind} {l h : Int} (ht : P.underlying t = some .string) (w : World) (h0 : 0 ≤ l) (h1 : l ≤ h) (h2 : h ≤ s.size) :
    (Instr.sliceAt t (.string s) (some (.int k l)) (some (.int k' h)) none).run P w = .ok (.string (s.extract l.toNat h.toNat)) w := by
  have a : (Instr.sliceBound (.int k' h) s.size .sliceAlen).run P w = .ok h.toNat w := run_sliceBound _ _ _ _ _ (by omega) h2
  have b : (Instr.sliceBound (.int k l) h.toNat .sliceB).run P w = .ok l.toNat w := run_sliceBound _ _ _ _ _ h0 (by omega)
  simp [Instr.sliceAt, Instr.slice, run_underlying ht, Instr.sliceBounds, a, b]

theorem slice_str_l {t : TypeId} {s : ByteArray} {k : IntKind} {l : Int} (ht : P.underlying t = some .string) (w : World) (h0 : 0 ≤ l) (h1 : l ≤ s.size) :
    (Instr.sliceAt t (.string s) (some (.int k l)) none none).run P w = .ok (.string (s.extract l.toNat s.size)) w := by
  have b : (Instr.sliceBound (.int k l) s.size .sliceB).run P w = .ok l.toNat w := run_sliceBound _ _ _ _ _ h0 h1
  simp [Instr.sliceAt, Instr.slice, run_underlying ht, Instr.sliceBounds, b]

theorem slice_str_h {t : TypeId} {s : ByteArray} {k : IntKind} {h : Int} (ht : P.underlying t = some .string) (w : World) (h0 : 0 ≤ h) (h1 : h ≤ s.size) :
    (Instr.sliceAt t (.string s) none (some (.int k h)) none).run P w = .ok (.string (s.extract 0 h.toNat)) w := by
  have b : (Instr.sliceBound (.int k h) s.size .sliceAlen).run P w = .ok h.toNat w := run_sliceBound _ _ _ _ _ h0 h1
  simp [Instr.sliceAt, Instr.slice, run_underlying ht, Instr.sliceBounds, b]

/-- A resource that is needed no more. -/
theorem Fr.drop {w0 : Orig} {w : World} {S : Stab} {rs : List Res} (h : Fr w0 w S rs) (i : Nat) : Fr w0 w S (rs.eraseIdx i) where
  below := h.below
  src := h.src
  inb := h.inb
  ok r hr := h.ok r (List.mem_of_mem_eraseIdx hr)
  own r hr := h.own r (List.mem_of_mem_eraseIdx hr)
  nodup := List.Nodup.sublist ((List.eraseIdx_sublist rs i).filterMap _) h.nodup

theorem Fr.perm {w0 : Orig} {w : World} {S : Stab} {rs rs' : List Res} (h : Fr w0 w S rs) (hp : rs.Perm rs') : Fr w0 w S rs' where
  below := h.below
  src := h.src
  inb := h.inb
  ok r hr := h.ok r (hp.mem_iff.2 hr)
  own r hr := h.own r (hp.mem_iff.2 hr)
  nodup := (hp.filterMap _).nodup_iff.1 h.nodup
theorem Fr.swap {w0 : Orig} {w : World} {S : Stab} {a b : Res} {rs : List Res} (h : Fr w0 w S (a :: b :: rs)) : Fr w0 w S (b :: a :: rs) := h.perm (List.Perm.swap b a rs)

theorem Fr.same {w0 : Orig} {w : World} {S : Stab} {rs rs' : List Res} (h : Fr w0 w S rs) (e : rs = rs') : Fr w0 w S rs' := e ▸ h

variable {B : Code} {p : List Nat} {Q : Post} {a : Act} {w : World}

/-- A literal slice: its cells in a new block. -/
theorem q_lit {ops : Array Oper} {N : Act → World → Prop} {n : Nat} {env : Env} {w0 : Orig} {S : Stab} {rs : List Res} (i d : Nat) (t len : Nat) (parts : Array (Nat × Operand)) (e : TypeId) (vals : List (Nat × Value)) (cs : List Value) (keep : List (Nat × Value)) (ha : EnvOk n a env) (H : Fr w0 w S rs)
    (k : ∀ b a' w', Fr w0 w' S (.box b e cs :: rs) → EnvOk n a' (keepEnv ((d, .slice (some ⟨b, 0, none⟩) len len) :: keep)) → Below w.heap.size w w' → w.heap.size ≤ b → N a' w')
    (h : opAt ops i = some (.buildSlice t len parts, some d, none) := by kernel_rfl) (hv : parts.toList.mapM (fun x => (getOp env [] x.2).map fun v => (x.1, v)) = some vals := by kernel_rfl)
    (hrun : ∀ w : World, (Instr.buildSlice t len vals.toArray).run P w = .ok (.slice (some ⟨w.heap.size, 0, none⟩) len len) (w.alloc (.cells cs.toArray e)) := by intro w; kernel_rfl)
    (hk : KeepEq n d env keep := by delta KeepEq; kernel_rfl) : wpOp P ops Q i N a w := by
  refine op_at h fun o ho hdst => ?_
  have e1 : parts.map (fun x => (x.1, a.eval x.2)) = vals.toArray := by
    have := parts_of (ρ := a.eval) (fun x u hx => getOp_ok ha (fun l hl => by simp at hl) x u hx) parts.toList vals hv
    rw [← this]
    apply Array.ext'
    rw [Array.toList_map]
  have e2 : (execOp a.eval o).run P w = .ok (.value (.slice (some ⟨w.heap.size, 0, none⟩) len len)) (w.alloc (.cells cs.toArray e)) := by
    have := hrun w
    rw [← e1] at this
    simp only [execOp, ho, Sem.run_bind]
    rw [show (Array.map (fun x => match x with | (i, x) => (i, a.eval x)) parts) = parts.map (fun x => (x.1, a.eval x.2)) from rfl, this]
    rfl
  unfold Oper.wp
  rw [e2, Oper.upon_value]
  exact k w.heap.size _ _ (H.newBox cs e) (env_put keep ha hdst hk) (below_new _ _) (Nat.le_refl _)

/-- append(row, literal...): row number j takes what stands in box number q. -/
theorem q_push {ops : Array Oper} {N : Act → World → Prop} {n : Nat} {env : Env} {t e : TypeId} {α : Type} [Data α] {bytes : Nat} {w0 : Orig} {S : Stab} {rs : List Res} (i d : Nat) (x y : Operand) (j q b m c : Nat) (v : Value) (l : List α) (news : List α) (cs : List Value) (keep : List (Nat × Value)) (ha : EnvOk n a env) (H : Fr w0 w S rs)
    (E : Elem P t e (Data.size α) bytes)
    (hj : rs[j]? = some (.row e v l)) (hq : rs[q]? = some (.box b e cs)) (hrd : RowRd S w cs news) (hm : m = news.length)
    (hlen : l.length + news.length ≤ 2147483647) (hb : bytes ≤ 1000)
    (k : ∀ v' a' w', Fr w0 w' S (rs.set j (.row e v' (l ++ news))) → EnvOk n a' (keepEnv ((d, v') :: keep)) → w.grownBy w' v.ownBlock → N a' w')
    (h : opAt ops i = some (.call { callee := .builtin .append, args := #[x, y], argTypes := #[t, t] }, some d, none) := by kernel_rfl) (hx : getOp env [] x = some v := by kernel_rfl) (hy : getOp env [] y = some (.slice (some ⟨b, 0, none⟩) m c) := by kernel_rfl)
    (hk : KeepEq n d env keep := by delta KeepEq; kernel_rfl) : wpOp P ops Q i N a w := by
  subst hm
  refine op_at h fun o ho hdst => ?_
  have hnil : chOk a [] := fun l hl => by simp at hl
  have hbox : w.heap[b]? = some (.cells cs.toArray e (0, 0)) := H.ok _ (List.mem_of_getElem? hq)
  have hnew : ∀ r u, cs[r]? = some u → w.cell? ((⟨b, 0, none⟩ : Addr).add r) = some u := by
    intro r u hu
    have hadd : (⟨b, 0, none⟩ : Addr).add r = ⟨b, r, none⟩ := by unfold Addr.add; split <;> simp_all
    rw [hadd, cell_of_row _ _ _ _ _ _ hbox]
    simpa using hu
  obtain ⟨v', w', hr, hf, hG⟩ := H.push (P := P) (ty := o.type) E j hj ⟨b, 0, none⟩ c news cs hrd hnew (by simp only [maxLen]; omega) (by have := Nat.mul_le_mul hlen hb; omega)
  unfold Oper.wp execOp
  simp only [ho, resolve, invoke, builtin, Sem.run_bind, Sem.run_pure, Result.andThen_ok, List.map_toArray, List.map_cons, List.map_nil, getOp_ok ha hnil _ _ hx, getOp_ok ha hnil _ _ hy, hr]
  exact k v' _ w' hf (env_put keep ha hdst hk) hG

end
end Go.Proofs.Ytbdgelipabndaaa
