/-
 Texts joined by program: VN, VO, VP, VQ, VR, VS, VU, VW, VX, WkA, VTW3, VTW2, WkB, TabG.
-/
import Derived.Test.YtahonnlgkmimlaaProg
import Derived.Test.YtahonnlgkmimlaaJBlockSolid4
set_option linter.unusedSimpArgs false
set_option linter.unusedVariables false
set_option maxRecDepth 100000
set_option maxHeartbeats 8000000
namespace Go.Proofs.Ytahonnlgkmimlaa
open Go.RowKit
def depsOf (ops : List Oper) (i : Nat) : List Nat := match ops[i]? with
 | some o => (o.after.toList.filter (Region.binds .any)).map (·.on)
 | none => []
def maskOf (ms : List Nat) : List Nat → Nat
 | [] => 0
 | d :: l => Nat.lor (Nat.lor (Nat.shiftLeft 1 d) (ms.getD d 0)) (maskOf ms l)
def msk (dp : Nat → List Nat) : Nat → List Nat
 | 0 => []
 | k + 1 => msk dp k ++ [maskOf (msk dp k) (dp k)]
theorem msk_len (dp : Nat → List Nat) : ∀ k, (msk dp k).length = k
 | 0 => rfl
 | k + 1 => by simp [msk, msk_len dp k]
theorem msk_get (dp : Nat → List Nat) {i : Nat} : ∀ {k : Nat}, i < k → (msk dp k).getD i 0 = maskOf (msk dp i) (dp i)
 | k + 1, h => by
   rw [msk, List.getD_eq_getElem?_getD]
   by_cases q : i < k
   · rw [List.getElem?_append_left (by rw [msk_len]; exact q), ← List.getD_eq_getElem?_getD, msk_get dp q]
   have : i = k := by omega
   subst this
   rw [List.getElem?_append_right (by rw [msk_len]; exact Nat.le_refl _), msk_len, Nat.sub_self]; rfl
theorem bit_or (a b j : Nat) : (Nat.lor a b).testBit j = (a.testBit j || b.testBit j) := Nat.testBit_or a b j
theorem bit_one {d j : Nat} (h : (Nat.shiftLeft 1 d).testBit j = true) : j = d := by
 have : (1 <<< d).testBit j = true := h
 rw [Nat.shiftLeft_eq, Nat.one_mul, Nat.testBit_two_pow] at this
 exact (of_decide_eq_true this).symm
theorem maskOf_bit {ms : List Nat} {j : Nat} : ∀ {l : List Nat}, (maskOf ms l).testBit j = true → ∃ d ∈ l, j = d ∨ (ms.getD d 0).testBit j = true
 | [], h => by simp [maskOf] at h
 | d :: l, h => by
   rw [maskOf, bit_or, Bool.or_eq_true, bit_or, Bool.or_eq_true] at h
   rcases h with (h | h) | h
   · exact ⟨d, by simp, .inl (bit_one h)⟩
   · exact ⟨d, by simp, .inr h⟩
   obtain ⟨e, he, q⟩ := maskOf_bit h
   exact ⟨e, List.mem_cons_of_mem _ he, q⟩
theorem mask_lt {dp : Nat → List Nat} {N : Nat} (hd : ∀ i, i < N → ∀ d ∈ dp i, d < i) : ∀ {i j : Nat}, i < N → ((msk dp N).getD i 0).testBit j = true → j < i := by
 intro i
 induction i using Nat.strongRecOn with
 | _ i ih =>
   intro j hi h
   rw [msk_get dp hi] at h
   obtain ⟨d, hdm, h⟩ := maskOf_bit h
   have := hd i hi d hdm
   rcases h with h | h
   · omega
   have h2 := ih d this (by omega) (j := j) (by rw [msk_get dp (by omega)]; rwa [msk_get dp this] at h)
   omega
theorem mask_in {dp : Nat → List Nat} {N : Nat} (hd : ∀ i, i < N → ∀ d ∈ dp i, d < i) {X : Nat → Bool} (hX : ∀ i, i < N → X i = true → ∀ d ∈ dp i, X d = true) : ∀ {i j : Nat}, i < N → (∀ d ∈ dp i, X d = true) → ((msk dp N).getD i 0).testBit j = true → X j = true := by
 intro i
 induction i using Nat.strongRecOn with
 | _ i ih =>
   intro j hi hi2 h
   rw [msk_get dp hi] at h
   obtain ⟨d, hdm, h⟩ := maskOf_bit h
   have := hd i hi d hdm
   rcases h with h | h
   · subst h; exact hi2 j hdm
   exact ih d this (by omega) (hX d (by omega) (hi2 d hdm)) (by rw [msk_get dp (by omega)]; rwa [msk_get dp this] at h)
def slOf (us : List Upd) (k : Nat) : Option (Nat × Option E2) := (us[k]?).bind (·.sl)
def reOf (us : List Upd) (k : Nat) : List (Nat × Option R2) := match us[k]? with
 | some u => u.re
 | none => []
def enX (us : List Upd) (X : Nat → Bool) : Nat → List (Nat × Option E2)
 | 0 => []
 | k + 1 => match X k with
   | true => addE (slOf us k) (enX us X k)
   | false => enX us X k
def reX (us : List Upd) (X : Nat → Bool) : Nat → List (Nat × Option R2)
 | 0 => []
 | k + 1 => match X k with
   | true => reOf us k ++ reX us X k
   | false => reX us X k
section
variable {s0 : Nat → Option E2} {r0 : Nat → Option R2} {us : List Upd} {X Y : Nat → Bool}
theorem putE_other {s : Nat → Option E2} {x : Option (Nat × Option E2)} {t : Nat} (h : ∀ e, x ≠ some (t, e)) : putE s x t = s t := by
 cases x with
 | none => rfl
 | some p => exact updE_ne fun q => h p.2 (by rw [← q])
theorem enX_congr {t : Nat} : ∀ {K : Nat}, (∀ k, k < K → ∀ e, slOf us k = some (t, e) → X k = Y k) → setE s0 (enX us X K) t = setE s0 (enX us Y K) t
 | 0, _ => rfl
 | K + 1, h => by
   have ih := enX_congr (K := K) fun k hk => h k (by omega)
   by_cases q : ∃ e, slOf us K = some (t, e)
   · obtain ⟨e, he⟩ := q
     have hxy := h K (by omega) e he
     simp only [enX, hxy]
     split
     · rw [setE_add, setE_add, he]
       show updE _ t e t = updE _ t e t
       rw [updE_same, updE_same]
     exact ih
   have h1 : ∀ (Z : Nat → Bool), setE s0 (enX us Z (K + 1)) t = setE s0 (enX us Z K) t := fun Z => by
     simp only [enX]
     split
     · rw [setE_add]; exact putE_other fun e he => q ⟨e, he⟩
     rfl
   rw [h1, h1, ih]
theorem reX_congr {j : Nat} : ∀ {K : Nat}, (∀ k, k < K → (∃ x, (j, x) ∈ reOf us k) → X k = Y k) → setM r0 (reX us X K) j = setM r0 (reX us Y K) j
 | 0, _ => rfl
 | K + 1, h => by
   have ih := reX_congr (K := K) fun k hk => h k (by omega)
   by_cases q : ∃ x, (j, x) ∈ reOf us K
   · have hxy := h K (by omega) q
     simp only [reX, hxy]
     split
     · rw [setM_append, setM_append]; exact setM_in q _ _
     exact ih
   have h1 : ∀ (Z : Nat → Bool), setM r0 (reX us Z (K + 1)) j = setM r0 (reX us Z K) j := fun Z => by
     simp only [reX]
     split
     · rw [setM_append]; exact setM_out q _
     rfl
   rw [h1, h1, ih]
theorem enX_cut {t i : Nat} : ∀ {K : Nat}, i ≤ K → (∀ k, i ≤ k → k < K → ∀ e, slOf us k = some (t, e) → X k = false) → setE s0 (enX us X K) t = setE s0 (enX us X i) t
 | 0, h, _ => by rw [show i = 0 by omega]
 | K + 1, h, hk => by
   by_cases q : i = K + 1
   · rw [q]
   rw [← enX_cut (K := K) (by omega) fun k h1 h2 => hk k h1 (by omega)]
   simp only [enX]
   split
   · rename_i hx
     rw [setE_add]
     refine putE_other fun e he => ?_
     have := hk K (by omega) (by omega) e he
     rw [hx] at this; cases this
   rfl
theorem reX_cut {j i : Nat} : ∀ {K : Nat}, i ≤ K → (∀ k, i ≤ k → k < K → (∃ x, (j, x) ∈ reOf us k) → X k = false) → setM r0 (reX us X K) j = setM r0 (reX us X i) j
 | 0, h, _ => by rw [show i = 0 by omega]
 | K + 1, h, hk => by
   by_cases q : i = K + 1
   · rw [q]
   rw [← reX_cut (K := K) (by omega) fun k h1 h2 => hk k h1 (by omega)]
   simp only [reX]
   split
   · rename_i hx
     rw [setM_append]
     refine setM_out (fun he => ?_) _
     have := hk K (by omega) (by omega) he
     rw [hx] at this; cases this
   rfl
theorem enX_more {i N : Nat} (hi : i < N) (hX : X i = false) (hY : ∀ k, Y k = (X k || decide (k = i))) (hc : ∀ k, k < N → X k = true → i < k → ∀ t e e', slOf us i = some (t, e) → slOf us k ≠ some (t, e')) : putE (setE s0 (enX us X N)) (slOf us i) = setE s0 (enX us Y N) := by
 funext t
 by_cases q : ∃ e, slOf us i = some (t, e)
 · obtain ⟨e, he⟩ := q
   rw [enX_cut (i := i + 1) (X := Y) (by omega) fun k h1 h2 e' he' => ?_]
   · have hy : Y i = true := by rw [hY]; simp
     simp only [enX, hy]
     rw [setE_add, he]
     show updE _ t e t = updE _ t e t
     rw [updE_same, updE_same]
   rw [hY]
   cases hx : X k with
   | true => exact (hc k h2 hx (by omega) t e e' he he').elim
   | false => simp; omega
 rw [putE_other fun e he => q ⟨e, he⟩]
 refine enX_congr fun k hk e he => ?_
 have : k ≠ i := fun z => q ⟨e, by rw [← z]; exact he⟩
 rw [hY, decide_eq_false this, Bool.or_false]
theorem reX_more {i N : Nat} (hi : i < N) (hX : X i = false) (hY : ∀ k, Y k = (X k || decide (k = i))) (hc : ∀ k, k < N → X k = true → i < k → ∀ j x x', (j, x) ∈ reOf us i → (j, x') ∉ reOf us k) : setM (setM r0 (reX us X N)) (reOf us i) = setM r0 (reX us Y N) := by
 funext j
 by_cases q : ∃ x, (j, x) ∈ reOf us i
 · rw [reX_cut (i := i + 1) (X := Y) (by omega) fun k h1 h2 hx' => ?_]
   · have hy : Y i = true := by rw [hY]; simp
     have e : reX us Y (i + 1) = reOf us i ++ reX us Y i := by simp only [reX, hy]
     rw [e, setM_append r0 (reOf us i) (reX us Y i)]
     exact setM_in q _ _
   rw [hY]
   obtain ⟨x, hx⟩ := q
   obtain ⟨x', hx'⟩ := hx'
   cases hx2 : X k with
   | true => exact (hc k h2 hx2 (by omega) j x x' hx hx').elim
   | false => simp; omega
 rw [setM_out q]
 refine reX_congr fun k hk he => ?_
 have : k ≠ i := fun z => q (by rw [← z]; exact he)
 rw [hY, decide_eq_false this, Bool.or_false]
end
def unr (M : List Nat) (i j : Nat) : Bool := !Nat.beq i j && (!(M.getD i 0).testBit j && !(M.getD j 0).testBit i)
def hidS (U : List Nat) (us : List Upd) (t : Nat) : Bool := U.any fun j => match slOf us j with
 | some p => Nat.beq p.1 t
 | none => false
def hidR (U : List Nat) (us : List Upd) (j : Nat) : Bool := U.any fun k => (reOf us k).any fun p => Nat.beq p.1 j
def hide {α : Type} (h : Nat → Bool) (f : Nat → Option α) : Nat → Option α := fun t => match h t with
 | true => none
 | false => f t
def allB (N : Nat) (f : Nat → Bool) : Bool := (List.range N).all f
theorem allB_ok {N : Nat} {f : Nat → Bool} (h : allB N f = true) {i : Nat} (hi : i < N) : f i = true := List.all_eq_true.1 h i (List.mem_range.2 hi)
def chSlots (us : List Upd) (k : Nat) : List Nat := match slOf us k with
 | some (_, some e) => e.ch.map (·.1)
 | _ => []
section
variable (P : Program) (T : List (Con P)) (sd : Nat) (hn : List (Nat × Bool)) (n : Nat) (ops : Array Oper) (s0 : Nat → Option E2) (r0 : Nat → Option R2) (b : Nat) (us : List Upd)
def viewOk (M : List Nat) (i : Nat) : Bool :=
 match ops[i]? with
 | some o => ((stepG P T sd hn n ops (b + sd * i) o).run (hide (hidS ((List.range ops.size).filter (unr M i)) us) (setE s0 (enX us (M.getD i 0).testBit ops.size))) (hide (hidR ((List.range ops.size).filter (unr M i)) us) (setM r0 (reX us (M.getD i 0).testBit ops.size)))).isSome
 | none => false
def apartU (i j : Nat) : Bool :=
 (match slOf us i, slOf us j with
   | some p, some q => !Nat.beq p.1 q.1
   | _, _ => true) && (reOf us i).all fun p => (reOf us j).all fun q => !Nat.beq p.1 q.1
def keysB (M : List Nat) (i : Nat) : Bool := (reOf us i).all fun p => Nat.blt p.1 b || (let k := (p.1 - b) / sd; Nat.beq k i || (M.getD i 0).testBit k)
def drawB (M : List Nat) : Bool :=
 (Nat.blt 0 sd && allB ops.size (fun i => (depsOf ops.toList i).all fun d => Nat.blt d i)) && (allB ops.size (fun i => viewOk P T sd hn n ops s0 r0 b us M i && keysB sd b us M i) && allB ops.size fun i => allB ops.size fun j => (!unr M i j || apartU us i j) && ((chSlots us j).all fun t => (match (ops[i]?).bind (·.dst) with
   | some d => !Nat.beq d t || ((M.getD j 0).testBit i)
   | none => true)))
end
def cnt (X : Nat → Bool) : Nat → Nat
 | 0 => 0
 | k + 1 => cnt X k + (match X k with | true => 0 | false => 1)
theorem cnt_none : ∀ N, cnt (fun _ => false) N = N
 | 0 => rfl
 | k + 1 => by rw [cnt, cnt_none k]
theorem cnt_zero {X : Nat → Bool} : ∀ {N : Nat}, cnt X N = 0 → ∀ k, k < N → X k = true
 | N + 1, h, k, hk => by
   rw [cnt] at h
   by_cases q : k = N
   · subst q
     cases hx : X k with
     | true => rfl
     | false => rw [hx] at h; simp at h
   exact cnt_zero (N := N) (by omega) k (by omega)
theorem cnt_same {X Y : Nat → Bool} : ∀ {N : Nat}, (∀ k, k < N → X k = Y k) → cnt X N = cnt Y N
 | 0, _ => rfl
 | N + 1, h => by rw [cnt, cnt, cnt_same fun k hk => h k (by omega), h N (by omega)]
theorem cnt_more {X Y : Nat → Bool} {i : Nat} (hX : X i = false) (hY : ∀ k, Y k = (X k || decide (k = i))) : ∀ {N : Nat}, i < N → cnt Y N + 1 = cnt X N
 | N + 1, h => by
   rw [cnt, cnt]
   by_cases q : i = N
   · subst q
     have e : cnt Y i = cnt X i := cnt_same fun k hk => by rw [hY, decide_eq_false (by omega), Bool.or_false]
     rw [e, hX, hY i]
     simp
   have := cnt_more hX hY (N := N) (by omega)
   have e : Y N = X N := by rw [hY, decide_eq_false (fun z => q z.symm), Bool.or_false]
   rw [e]; omega
section
variable {P : Program} {o : OrgG} {n : Nat} {A A' : Asg} {S S' : Stab} {F G : Nat → Prop} {s0 : Nat → Option E2} {r0 : Nat → Option R2} {a : Act} {w w' : World} {b : Nat} {T : List (Con P)} {sd : Nat} {hn : List (Nat × Bool)} {ops : Array Oper} {Q : Exit → Act → World → Prop}
theorem seqU_spec {full : List Upd} : ∀ {l : List Oper} {k : Nat} {us pre : List Upd}, full = pre ++ us → pre.length = k → seqU P T sd hn n ops s0 r0 l (b + sd * k) (enX full (fun _ => true) k) (reX full (fun _ => true) k) = some us →
   us.length = l.length ∧ ∀ i op, l[i]? = some op → ∃ u, full[k + i]? = some u ∧ (stepG P T sd hn n ops (b + sd * (k + i)) op).run (setE s0 (enX full (fun _ => true) (k + i))) (setM r0 (reX full (fun _ => true) (k + i))) = some u
 | [], k, us, pre, _, _, h => by
   cases h
   exact ⟨rfl, fun i op hi => by simp at hi⟩
 | op :: l, k, us, pre, hfull, hk, h => by
   simp only [seqU] at h
   split at h
   · split at h
     · rename_i u hu
       split at h
       · rename_i us' hus
         cases h
         have hget : full[k]? = some u := by rw [hfull, List.getElem?_append_right (by omega), hk, Nat.sub_self]; rfl
         have hen : enX full (fun _ => true) (k + 1) = addE u.sl (enX full (fun _ => true) k) := by simp only [enX, slOf, hget, Option.bind_some]
         have hre : reX full (fun _ => true) (k + 1) = u.re ++ reX full (fun _ => true) k := by simp only [reX, reOf, hget]
         obtain ⟨h1, h2⟩ := seqU_spec (full := full) (l := l) (k := k + 1) (us := us') (pre := pre ++ [u]) (by rw [hfull]; simp) (by simp [hk]) (by rw [hen, hre, show b + sd * (k + 1) = b + sd * k + sd by rw [Nat.mul_succ]; omega]; exact hus)
         refine ⟨by simp [h1], fun i op' hi => ?_⟩
         cases i with
         | zero =>
           have : op = op' := by simpa using hi
           subst this
           exact ⟨u, by simpa using hget, by simpa using hu⟩
         | succ i =>
           obtain ⟨u', k1, k2⟩ := h2 i op' (by simpa using hi)
           exact ⟨u', by rw [show k + (i + 1) = k + 1 + i by omega]; exact k1, by rw [show k + (i + 1) = k + 1 + i by omega]; exact k2⟩
       cases h
     cases h
   cases h
theorem hide_le {α : Type} {h : Nat → Bool} {f g : Nat → Option α} (k : ∀ t, h t = false → f t = g t) : ∀ t e, hide h f t = some e → g t = some e := by
 intro t e he
 unfold hide at he
 split at he
 · cases he
 rename_i hh; rw [← k t hh]; exact he
theorem slot_eq {sd b i q j : Nat} (h1 : b + sd * q ≤ j) (h2 : j < b + sd * q + sd) (h3 : b + sd * i ≤ j) (h4 : j < b + sd * i + sd) : q = i := by
 rcases Nat.lt_trichotomy q i with h | h | h
 · have := Nat.mul_le_mul_left sd (show q + 1 ≤ i from h)
   rw [Nat.mul_succ] at this; omega
 · exact h
 have := Nat.mul_le_mul_left sd (show i + 1 ≤ q from h)
 rw [Nat.mul_succ] at this; omega
theorem drawn_ok {us : List Upd} (h0 : ∀ t e, s0 t = some e → e.ch = []) (hseq : seqU P T sd hn n ops s0 r0 ops.toList b [] [] = some us) {M : List Nat} (hM : M = msk (depsOf ops.toList) ops.size) (hdr : drawB P T sd hn n ops s0 r0 b us M = true)
   (hcs : ∀ u ∈ us, ∀ p ∈ u.cs, p) (hhs : ∀ u ∈ us, ∀ h ∈ u.hs, ∀ A w, h.lhs A w = h.rhs A w)
   (k : ∀ A' S' F' a' w', OkF o n A' S' F' (setE s0 (enX us (fun _ => true) ops.size)) (setM r0 (reX us (fun _ => true) ops.size)) a' w' → (∀ j, b + sd * ops.size ≤ j → ¬ F' j) → Q .normal a' w')
   (H : OkF o n A S F s0 r0 a w) (hF : ∀ j, b ≤ j → ¬ F j) : wpAny P .any ops Q ops.size (Array.replicate ops.size false) a w := by
 obtain ⟨hlen, hspec⟩ := seqU_spec (b := b) (full := us) (us := us) (k := 0) (pre := []) (by simp) rfl (by simpa [enX, reX] using hseq)
 rw [Array.length_toList] at hlen
 unfold drawB at hdr
 simp only [Bool.and_eq_true] at hdr
 obtain ⟨⟨hsd, hd⟩, hv, hu⟩ := hdr
 have hsd : 0 < sd := by simpa using Nat.blt_eq ▸ hsd
 have hdlt : ∀ i, i < ops.size → ∀ d ∈ depsOf ops.toList i, d < i := fun i hi d hdm => by
   have := List.all_eq_true.1 (allB_ok hd hi) d hdm
   simpa using Nat.blt_eq ▸ this
 have mlt : ∀ {i j : Nat}, i < ops.size → (M.getD i 0).testBit j = true → j < i := fun hi h => mask_lt hdlt hi (by rw [← hM]; exact h)
 have apart : ∀ {i j : Nat}, i < ops.size → j < ops.size → unr M i j = true → apartU us i j = true := fun {i j} hi hj hun => by
   have := allB_ok (allB_ok hu hi) hj
   rw [Bool.and_eq_true, hun] at this
   simpa using this.1
 have chains : ∀ {i j d t : Nat}, i < ops.size → j < ops.size → (ops[i]?).bind (·.dst) = some d → t ∈ chSlots us j → d = t → (M.getD j 0).testBit i = true := fun {i j d t} hi hj hdst ht e => by
   have := allB_ok (allB_ok hu hi) hj
   rw [Bool.and_eq_true] at this
   have := List.all_eq_true.1 this.2 t ht
   rw [hdst] at this
   subst e
   simpa [Nat.beq_refl] using this
 -- the core
 have core : ∀ (fuel : Nat) (listed : Array Bool) (a : Act) (w : World) (A : Asg) (S : Stab) (F : Nat → Prop), listed.size = ops.size → cnt (fun i => listed.getD i false) ops.size = fuel →
     (∀ i, i < ops.size → listed.getD i false = true → ∀ d ∈ depsOf ops.toList i, listed.getD d false = true) →
     OkF o n A S F (setE s0 (enX us (fun i => listed.getD i false) ops.size)) (setM r0 (reX us (fun i => listed.getD i false) ops.size)) a w →
     (∀ j, b ≤ j → F j → ∃ i, i < ops.size ∧ listed.getD i false = true ∧ b + sd * i ≤ j ∧ j < b + sd * i + sd) → wpAny P .any ops Q fuel listed a w := by
   intro fuel
   induction fuel with
   | zero =>
     intro listed a w A S F hsz hc hcl H hFX
     have hall := cnt_zero hc
     have hready : Region.ready .any ops listed = [] := by
       refine List.eq_nil_iff_forall_not_mem.2 fun i hi => ?_
       obtain ⟨h1, op, hop, _⟩ := mem_ready.1 hi
       have hi2 : i < ops.size := (Array.getElem?_eq_some_iff.1 hop).1
       have h3 := hall i hi2
       rw [Array.getD_eq_getD_getElem?] at h1 h3
       rw [Array.getElem?_eq_getElem (by omega)] at h1 h3
       simp only [Option.getD_some] at h1 h3
       rw [h1] at h3; cases h3
     refine ⟨hready, ?_⟩
     have e1 : setE s0 (enX us (fun i => listed.getD i false) ops.size) = setE s0 (enX us (fun _ => true) ops.size) := funext fun t => enX_congr fun i hi _ _ => hall i hi
     have e2 : setM r0 (reX us (fun i => listed.getD i false) ops.size) = setM r0 (reX us (fun _ => true) ops.size) := funext fun t => reX_congr fun i hi _ => hall i hi
     rw [e1, e2] at H
     refine k A S F a w H fun j hj hn => ?_
     obtain ⟨i, h1, _, h3, h4⟩ := hFX j (by omega) hn
     have := Nat.mul_le_mul_left sd (show i + 1 ≤ ops.size from h1)
     rw [Nat.mul_succ] at this
     omega
   | succ fuel ih =>
     intro listed a w A S F hsz hc hcl H hFX
     constructor
     · -- something is ready
       intro hnil
       exfalso
       have hex : ∃ i, i < ops.size ∧ listed.getD i false = false := by
         refine Classical.byContradiction fun q => ?_
         have : cnt (fun i => listed.getD i false) ops.size = cnt (fun _ => true) ops.size := cnt_same fun i hi => by
           cases hx : listed.getD i false with
           | true => rfl
           | false => exact (q ⟨i, hi, hx⟩).elim
         have z : ∀ N, cnt (fun _ => true) N = 0 := fun N => by
           induction N with
           | zero => rfl
           | succ N ih => exact ih
         rw [this, z] at hc; cases hc
       obtain ⟨i, ⟨hi, hx⟩, hmin⟩ := least_of (p := fun i => i < ops.size ∧ listed.getD i false = false) hex.choose hex.choose_spec
       have hmem : i ∈ Region.ready .any ops listed := by
         refine mem_ready.2 ⟨?_, ops[i], Array.getElem?_eq_getElem hi, fun e he hb => ?_⟩
         · rw [Array.getD_eq_getD_getElem?, Array.getElem?_eq_getElem (by omega)] at hx ⊢
           exact hx
         have hdep : e.on ∈ depsOf ops.toList i := by
           unfold depsOf
           rw [show ops.toList[i]? = some ops[i] by simp [Array.getElem?_eq_getElem hi]]
           exact List.mem_map.2 ⟨e, List.mem_filter.2 ⟨by simpa using he, hb⟩, rfl⟩
         have hlt := hdlt i hi _ hdep
         cases hy : listed.getD e.on false with
         | true => rfl
         | false => have := hmin e.on ⟨by omega, hy⟩; omega
       rw [hnil] at hmem; cases hmem
     intro i hir
     obtain ⟨h1, op, hop, hdeps⟩ := mem_ready.1 hir
     have hi : i < ops.size := (Array.getElem?_eq_some_iff.1 hop).1
     have hopl : ops.toList[i]? = some op := by simpa using hop
     have hXi : listed.getD i false = false := by
       rw [Array.getD_eq_getD_getElem?, Array.getElem?_eq_getElem (by omega)] at h1 ⊢
       exact h1
     have hdX : ∀ d ∈ depsOf ops.toList i, listed.getD d false = true := fun d hdm => by
       unfold depsOf at hdm
       rw [hopl] at hdm
       obtain ⟨e, he, rfl⟩ := List.mem_map.1 hdm
       obtain ⟨he1, he2⟩ := List.mem_filter.1 he
       exact hdeps e (by simpa using he1) he2
     have min : ∀ {j : Nat}, (M.getD i 0).testBit j = true → listed.getD j false = true := fun h => mask_in hdlt (X := fun j => listed.getD j false) hcl hi hdX (by rw [← hM]; exact h)
     have mno : ∀ {j : Nat}, j < ops.size → listed.getD j false = true → (M.getD j 0).testBit i = false := fun {j} hj hl => by
       cases hx : (M.getD j 0).testBit i with
       | false => rfl
       | true =>
         have := mask_in hdlt (X := fun j => listed.getD j false) hcl hj (hcl j hj hl) (by rw [← hM]; exact hx)
         rw [hXi] at this; cases this
     have ne : ∀ {j : Nat}, listed.getD j false = true → i ≠ j := fun hl e => by subst e; rw [hXi] at hl; cases hl
     have un : ∀ {j : Nat}, j < ops.size → listed.getD j false = true → (M.getD i 0).testBit j = false → unr M i j = true := fun {j} hj hl hb => by
       unfold unr
       rw [hb, mno hj hl]
       have : Nat.beq i j = false := by
         cases hx : Nat.beq i j with
         | false => rfl
         | true => exact (ne hl (beq_t hx)).elim
       rw [this]; rfl
     obtain ⟨u, hu1, hu2⟩ := hspec i op hopl
     rw [Nat.zero_add] at hu1 hu2
     have hvk := allB_ok hv hi
     rw [Bool.and_eq_true] at hvk
     obtain ⟨hview, hkeys⟩ := hvk
     unfold viewOk at hview
     rw [hop] at hview
     obtain ⟨u', hu'⟩ := Option.isSome_iff_exists.1 hview
     -- what the view shows stands in the text's order, and here
     have hidS_no : ∀ {t j : Nat} {e : Option E2}, hidS ((List.range ops.size).filter (unr M i)) us t = false → j < ops.size → slOf us j = some (t, e) → unr M i j = false := fun {t j e} hh hj hs => by
       cases hx : unr M i j with
       | false => rfl
       | true =>
         have := List.any_eq_false.1 hh j (List.mem_filter.2 ⟨List.mem_range.2 hj, hx⟩)
         rw [hs] at this
         exact (this (Nat.beq_refl _)).elim
     have hidR_no : ∀ {t j : Nat}, hidR ((List.range ops.size).filter (unr M i)) us t = false → j < ops.size → (∃ x, (t, x) ∈ reOf us j) → unr M i j = false := fun {t j} hh hj ⟨x, hs⟩ => by
       cases hx : unr M i j with
       | false => rfl
       | true =>
         have := List.any_eq_false.1 hh j (List.mem_filter.2 ⟨List.mem_range.2 hj, hx⟩)
         exact (this (List.any_eq_true.2 ⟨_, hs, Nat.beq_refl _⟩)).elim
     have order : ∀ {j : Nat}, j < ops.size → unr M i j = false → j ≠ i → (M.getD i 0).testBit j = true ∨ (M.getD j 0).testBit i = true := fun {j} hj hun hne => by
       unfold unr at hun
       have : Nat.beq i j = false := by
         cases hx : Nat.beq i j with
         | false => rfl
         | true => exact (hne (beq_t hx).symm).elim
       rw [this] at hun
       cases h1 : (M.getD i 0).testBit j with
       | true => exact .inl rfl
       | false =>
         cases h2 : (M.getD j 0).testBit i with
         | true => exact .inr rfl
         | false => rw [h1, h2] at hun; cases hun
     have hseqU : u' = u := by
       have := Tr.mono (hide_le fun t ht => ?_) (hide_le fun t ht => ?_) _ hu' (s' := setE s0 (enX us (fun _ => true) i)) (r' := setM r0 (reX us (fun _ => true) i))
       · rw [hu2] at this; exact (Option.some.inj this).symm
       · rw [enX_cut (i := i) (X := (M.getD i 0).testBit) (by omega) fun j hj1 hj2 e he => ?_]
         · refine enX_congr fun j hj e he => ?_
           rcases order (by omega) (hidS_no ht (by omega) he) (by omega) with q | q
           · exact q
           have := mlt (by omega) q; omega
         cases hx : (M.getD i 0).testBit j with
         | false => rfl
         | true => have := mlt hi hx; omega
       rw [reX_cut (i := i) (X := (M.getD i 0).testBit) (by omega) fun j hj1 hj2 he => ?_]
       · refine reX_congr fun j hj he => ?_
         rcases order (by omega) (hidR_no ht (by omega) he) (by omega) with q | q
         · exact q
         have := mlt (by omega) q; omega
       cases hx : (M.getD i 0).testBit j with
       | false => rfl
       | true => have := mlt hi hx; omega
     subst hseqU
     have hhere : (stepG P T sd hn n ops (b + sd * i) op).run (setE s0 (enX us (fun i => listed.getD i false) ops.size)) (setM r0 (reX us (fun i => listed.getD i false) ops.size)) = some u' := by
       refine Tr.mono (hide_le fun t ht => ?_) (hide_le fun t ht => ?_) _ hu'
       · refine enX_congr fun j hj e he => ?_
         have hun := hidS_no ht hj he
         cases hx : listed.getD j false with
         | true =>
           cases hb : (M.getD i 0).testBit j with
           | true => rfl
           | false => rw [un hj hx hb] at hun; cases hun
         | false =>
           cases hb : (M.getD i 0).testBit j with
           | true => have := min hb; rw [hx] at this; cases this
           | false => rfl
       refine reX_congr fun j hj he => ?_
       have hun := hidR_no ht hj he
       cases hx : listed.getD j false with
       | true =>
         cases hb : (M.getD i 0).testBit j with
         | true => rfl
         | false => rw [un hj hx hb] at hun; cases hun
       | false =>
         cases hb : (M.getD i 0).testBit j with
         | true => have := min hb; rw [hx] at this; cases this
         | false => rfl
     have hmem : u' ∈ us := List.mem_of_getElem? hu1
     have hsl : slOf us i = u'.sl := by unfold slOf; rw [hu1]; rfl
     have hre : reOf us i = u'.re := by unfold reOf; rw [hu1]
     have hfree : ∀ d, op.dst = some d → ∀ t e, setE s0 (enX us (fun i => listed.getD i false) ops.size) t = some e → ∀ l ∈ e.ch, l.1 ≠ d := by
       intro d hdst t e he l hl q
       have hfrom : ∀ K, setE s0 (enX us (fun i => listed.getD i false) K) t = some e → K ≤ ops.size → s0 t = some e ∨ ∃ j, j < ops.size ∧ listed.getD j false = true ∧ slOf us j = some (t, some e) := by
         intro K
         induction K with
         | zero => intro h _; exact .inl h
         | succ K ihK =>
           intro h hK
           simp only [enX] at h
           split at h
           · rename_i hx
             rw [setE_add] at h
             by_cases z : ∃ e', slOf us K = some (t, e')
             · obtain ⟨e', he'⟩ := z
               rw [he'] at h
               have h : updE _ t e' t = some e := h
               rw [updE_same] at h
               subst h
               exact .inr ⟨K, by omega, hx, he'⟩
             rw [putE_other fun e' he' => z ⟨e', he'⟩] at h
             exact ihK h (by omega)
           exact ihK h (by omega)
       rcases hfrom _ he (Nat.le_refl _) with h3 | ⟨j, hj, hjX, hjs⟩
       · rw [h0 t e h3] at hl; cases hl
       have := chains (i := i) (j := j) (d := d) (t := l.1) hi hj (by rw [hop]; exact hdst) (by unfold chSlots; rw [hjs]; exact List.mem_map.2 ⟨l, hl, rfl⟩) q.symm
       rw [mno hj hjX] at this; cases this
     unfold wpOp
     rw [hop]
     simp only
     have hY : ∀ q, (listed.setIfInBounds i true).getD q false = (listed.getD q false || decide (q = i)) := fun q => by
       rw [Array.getD_eq_getD_getElem?, Array.getD_eq_getD_getElem?, Array.getElem?_setIfInBounds]
       by_cases e : i = q
       · subst e
         rw [if_pos rfl, if_pos (by omega)]
         simp
       rw [if_neg e, decide_eq_false (fun z => e z.symm), Bool.or_false]
     have hstep := stepG_ok (Q := Q) (K := wpAny P .any ops Q fuel (listed.setIfInBounds i true)) H (fun j hj1 hj2 hFj => by
         obtain ⟨q, q1, q2, q3, q4⟩ := hFX j (by omega) hFj
         have : q = i := slot_eq q3 q4 hj1 hj2
         subst this
         rw [hXi] at q2; cases q2) hhere (hcs _ hmem) (hhs _ hmem) hfree fun A' S' a' w' H' hB => by
       refine ih _ a' w' A' S' (FU F u'.re) (by simp [hsz]) ?_ (fun q hq hql d hdm => ?_) ?_ fun j hj hFj => ?_
       · have := cnt_more (X := fun i => listed.getD i false) (Y := fun q => (listed.setIfInBounds i true).getD q false) hXi hY hi
         rw [hc] at this; omega
       · rw [hY] at hql ⊢
         rw [Bool.or_eq_true] at hql ⊢
         rcases hql with hql | hql
         · exact .inl (hcl q hq hql d hdm)
         have := of_decide_eq_true hql
         subst this
         exact .inl (hdX d hdm)
       · rw [← hsl, ← hre] at H'
         rw [enX_more (X := fun i => listed.getD i false) (Y := fun q => (listed.setIfInBounds i true).getD q false) hi hXi hY fun j hj hjX hij t e e' h1 h2 => ?_, reX_more (X := fun i => listed.getD i false) (Y := fun q => (listed.setIfInBounds i true).getD q false) hi hXi hY fun j hj hjX hij t e e' h1 h2 => ?_] at H'
         · rw [← hre]; exact H'
         · have hb : (M.getD i 0).testBit j = false := by
             cases hx : (M.getD i 0).testBit j with
             | false => rfl
             | true => have := mlt hi hx; omega
           have := apart hi hj (un hj hjX hb)
           unfold apartU at this
           rw [Bool.and_eq_true] at this
           have := List.all_eq_true.1 (List.all_eq_true.1 this.2 _ h1) _ h2
           rw [Nat.beq_refl] at this; cases this
         have hb : (M.getD i 0).testBit j = false := by
           cases hx : (M.getD i 0).testBit j with
           | false => rfl
           | true => have := mlt hi hx; omega
         have := apart hi hj (un hj hjX hb)
         unfold apartU at this
         rw [Bool.and_eq_true, h1, h2] at this
         have := this.1
         simp only [Nat.beq_refl] at this; cases this
       rcases hFj with hFj | ⟨x, hx⟩
       · obtain ⟨q, q1, q2, q3, q4⟩ := hFX j hj hFj
         exact ⟨q, q1, by rw [hY, q2]; rfl, q3, q4⟩
       have hk := List.all_eq_true.1 (show (reOf us i).all _ = true from hkeys) (j, x) (by rw [hre]; exact hx)
       simp only [Bool.or_eq_true] at hk
       have hd1 := Nat.div_add_mod (j - b) sd
       have hd2 := Nat.mod_lt (j - b) hsd
       rcases hk with hk | hk | hk
       · have : j < b := by simpa using Nat.blt_eq ▸ hk
         omega
       · have := beq_t hk
         rw [this] at hd1
         refine ⟨i, hi, by rw [hY]; simp, by omega, by omega⟩
       have hl := min hk
       have hlt := mlt hi hk
       exact ⟨(j - b) / sd, by omega, by rw [hY, hl]; rfl, by omega, by omega⟩
     split
     · rename_i hw; rw [if_pos hw] at hstep; exact .inl hstep
     rename_i hw; rw [if_neg hw] at hstep; exact hstep
 have hrep : ∀ i, (Array.replicate ops.size false).getD i false = false := fun i => by
   rw [Array.getD_eq_getD_getElem?, Array.getElem?_replicate]; split <;> rfl
 have e1 : setE s0 (enX us (fun i => (Array.replicate ops.size false).getD i false) ops.size) = s0 := funext fun t => by
   rw [enX_cut (i := 0) (Nat.zero_le _) fun j _ _ _ _ => hrep j]; rfl
 have e2 : setM r0 (reX us (fun i => (Array.replicate ops.size false).getD i false) ops.size) = r0 := funext fun t => by
   rw [reX_cut (i := 0) (Nat.zero_le _) fun j _ _ _ => hrep j]; rfl
 refine core ops.size _ a w A S F (by simp) ?_ (fun i _ hl => by rw [hrep] at hl; cases hl) (by rw [e1, e2]; exact H) fun j hj hFj => (hF j hj hFj).elim
 rw [cnt_same (Y := fun _ => false) fun i _ => hrep i, cnt_none]
end
structure St2 : Type where
 env : List (Nat × Option E2)
 rs : List (Nat × Option R2)
 nx : Nat
def stE (σ : St2) : Nat → Option E2 := setE (fun _ => none) σ.env
def stR (σ : St2) : Nat → Option R2 := setM (fun _ => none) σ.rs
structure Okx (o : OrgG) (n : Nat) (σ : St2) (a : Act) (w : World) : Prop where
 ok : ∃ A S, OkF o n A S (· < σ.nx) (stE σ) (stR σ) a w
 ch : ∀ t e, stE σ t = some e → e.ch = []
 np : ∀ j, ¬ o.pF j
structure OkI (o : OrgG) (n : Nat) (r0 : Nat → Option R2) (F0 L : Nat → Prop) (σ : St2) (a : Act) (w : World) : Prop where
 ok : ∃ A S F, OkF o n A S F (stE σ) (setM r0 σ.rs) a w ∧ (∀ j, σ.nx ≤ j → L j → ¬ F j) ∧ ∀ j, F j → F0 j ∨ ∃ x, (j, x) ∈ σ.rs
 ch : ∀ t e, stE σ t = some e → e.ch = []
theorem Okx.i {o : OrgG} {n : Nat} {σ : St2} {a : Act} {w : World} (h : Okx o n σ a w) : OkI o n (fun _ => none) (fun _ => True) (fun _ => True) σ a w := by
 obtain ⟨⟨A, S, H⟩, h0, _⟩ := h
 exact ⟨⟨A, S, _, H, fun j h1 _ h2 => by omega, fun _ _ => .inl tv⟩, h0⟩
theorem OkI.x {o : OrgG} {n : Nat} {σ : St2} {a : Act} {w : World} (h : OkI o n (fun _ => none) (fun _ => True) (fun _ => True) σ a w) (np : ∀ j, ¬ o.pF j) : Okx o n σ a w := by
 obtain ⟨⟨A, S, F, H, h1, _⟩, h0⟩ := h
 exact ⟨⟨A, S, H.agree (Agr.refl _ _) fun j hj => Classical.byContradiction fun q => h1 j (Nat.le_of_not_lt q) tv hj⟩, h0, np⟩
inductive It where
 | run (p : List Nat)
 | blk (i : Nat)
 | lp (K : Act → World → Prop)
def post (P : Program) (B : Code) (Q : Post) : List It → Post
 | [] => Q
 | .run p :: r => Exit.then (fun a w => (sub B p).wp P (post P B Q r) a w) (post P B Q r)
 | .blk i :: r => Exit.inBlock i (post P B Q r)
 | .lp K :: r => Exit.then K (post P B Q r)
def unw (i : Nat) : List It → Option (List It)
 | [] => none
 | .run _ :: r => unw i r
 | .lp _ :: r => unw i r
 | .blk j :: r => match Nat.beq i j with
   | true => some r
   | false => unw i r
section
variable (P : Program) (T : List (Con P)) (sd : Nat) (dr : Bool) (hn : List (Nat × Bool)) (n : Nat)
def regS (ops : Array Oper) (d : Bool) (σ : St2) : Option (List Upd × St2) :=
 match seqU P T sd hn n ops (stE σ) (stR σ) ops.toList σ.nx [] [] with
 | some us => match d with
   | false => some (us, ⟨unch (enAll us []) ++ σ.env, reAll us [] ++ σ.rs, σ.nx + sd * ops.size⟩)
   | true => match dr && (drawB P T sd hn n ops (stE σ) (stR σ) σ.nx us (msk (depsOf ops.toList) ops.size) && P.follows .mixedOrders) with
     | true => some (us, ⟨unch (enX us (fun _ => true) ops.size) ++ σ.env, reX us (fun _ => true) ops.size ++ σ.rs, σ.nx + sd * ops.size⟩)
     | false => none
 | none => none
def litOf (σ : St2) : Operand → Option Bool
 | .tmp t => match stE σ t with
   | some ⟨[], .one (.b (.lit b))⟩ => some b
   | _ => none
 | .const (.bool b) => some b
 | _ => none
structure ExR : Type 1 where
 cs : List Prop
 hs : List Hid
 st : List It
 σ : St2
def exec (B : Code) : Nat → List It → St2 → List Prop → List Hid → Option ExR
 | 0, _, _, _, _ => none
 | f + 1, st, σ, cs, hs => match st with
   | .blk _ :: r => exec B f r σ cs hs
   | .run p :: r => match sub B p with
     | .seq _ _ => exec B f (.run (p ++ [0]) :: .run (p ++ [1]) :: r) σ cs hs
     | .block i _ => exec B f (.run (p ++ [0]) :: .blk i :: r) σ cs hs
     | .skip => exec B f r σ cs hs
     | .exit i => match unw i r with
       | some r' => exec B f r' σ cs hs
       | none => none
     | .region _ ops d => match regS P T sd dr hn n ops d σ with
       | some x => exec B f r x.2 (cs ++ x.1.flatMap (·.cs)) (hs ++ x.1.flatMap (·.hs))
       | none => some ⟨cs, hs, .run p :: r, σ⟩
     | .cond c _ _ => match litOf σ c with
       | some true => exec B f (.run (p ++ [0]) :: r) σ cs hs
       | some false => exec B f (.run (p ++ [1]) :: r) σ cs hs
       | none => some ⟨cs, hs, .run p :: r, σ⟩
     | _ => some ⟨cs, hs, .run p :: r, σ⟩
   | st => some ⟨cs, hs, st, σ⟩
end
section
variable {P : Program} {o : OrgG} {n : Nat} {σ σ' : St2} {a : Act} {w w' : World} {T : List (Con P)} {sd : Nat} {dr : Bool} {hn : List (Nat × Bool)} {B : Code} {Q : Post} {st : List It} {r0 : Nat → Option R2} {F0 L : Nat → Prop}
theorem unw_ok {i : Nat} : ∀ {st r : List It}, unw i st = some r → post P B Q r .normal a w → post P B Q st (.exit i) a w
 | [], r, h, _ => by cases h
 | .run _ :: st, r, h, k => unw_ok (st := st) h k
 | .lp _ :: st, r, h, k => unw_ok (st := st) h k
 | .blk j :: st, r, h, k => by
   simp only [unw] at h
   split at h
   · rename_i e
     cases h
     have := beq_t e
     subst this
     show (if i = i then post P B Q st .normal a w else _)
     rw [if_pos rfl]; exact k
   rename_i e
   show (if i = j then post P B Q st .normal a w else post P B Q st (.exit i) a w)
   rw [if_neg (beq_f e)]
   exact unw_ok h k
theorem post_ret : ∀ {st : List It}, Q .ret a w → post P B Q st .ret a w
 | [], h => h
 | .run _ :: st, h => post_ret (st := st) h
 | .blk _ :: st, h => post_ret (st := st) h
 | .lp _ :: st, h => post_ret (st := st) h
theorem stE_app (x : List (Nat × Option E2)) (σ : St2) (rs : List (Nat × Option R2)) (k : Nat) : stE ⟨x ++ σ.env, rs, k⟩ = setE (stE σ) x := setE_append _ _ _
theorem stR_app (x : List (Nat × Option R2)) (σ : St2) (env : List (Nat × Option E2)) (k : Nat) : stR ⟨env, x ++ σ.rs, k⟩ = setM (stR σ) x := setM_append _ _ _
theorem stR_le (r0 : Nat → Option R2) (σ : St2) : ∀ j x, stR σ j = some x → setM r0 σ.rs j = some x := fun j x h => setM_le (fun _ _ q => by cases q) h
theorem reg_ok {id : Nat} {ops : Array Oper} {d : Bool} {us : List Upd} (h : OkI o n r0 F0 L σ a w) (hr : regS P T sd dr hn n ops d σ = some (us, σ')) (hL : ∀ j, j < σ'.nx → L j) (hdr : dr = true → (∀ j, L j) ∧ (∀ j, F0 j) ∧ r0 = fun _ => none) (hcs : ∀ p ∈ us.flatMap (·.cs), p) (hhs : ∀ h ∈ us.flatMap (·.hs), ∀ A w, h.lhs A w = h.rhs A w)
   (k : ∀ a' w', OkI o n r0 F0 L σ' a' w' → Q .normal a' w') : (Code.region id ops d).wp P Q a w := by
 obtain ⟨⟨A, S, F, H, hF, hF0⟩, h0⟩ := h
 have hcs' : ∀ u ∈ us, ∀ p ∈ u.cs, p := fun u hu p hp => hcs p (List.mem_flatMap.2 ⟨u, hu, hp⟩)
 have hhs' : ∀ u ∈ us, ∀ h ∈ u.hs, ∀ A w, h.lhs A w = h.rhs A w := fun u hu p hp => hhs p (List.mem_flatMap.2 ⟨u, hu, hp⟩)
 unfold regS at hr
 have fin : ∀ {en : List (Nat × Option E2)} {re : List (Nat × Option R2)} {A' : Asg} {S' : Stab} {F' : Nat → Prop} {a' : Act} {w' : World}, OkF o n A' S' F' (setE (stE σ) en) (setM (setM r0 σ.rs) re) a' w' → (∀ j, σ.nx + sd * ops.size ≤ j → L j → ¬ F' j) → (∀ j, F' j → F0 j ∨ ∃ x, (j, x) ∈ re ++ σ.rs) →
     OkI o n r0 F0 L ⟨unch en ++ σ.env, re ++ σ.rs, σ.nx + sd * ops.size⟩ a' w' := by
   intro en re A' S' F' a' w' H' hF' hF2
   refine ⟨⟨A', S', F', ?_, hF', hF2⟩, ?_⟩
   · show OkF o n A' S' F' (stE ⟨unch en ++ σ.env, re ++ σ.rs, _⟩) (setM r0 (re ++ σ.rs)) a' w'
     rw [stE_app, setM_append]
     exact H'.less fun t e he => (unch_ok h0 he).1
   rw [stE_app]
   exact fun t e he => (unch_ok h0 he).2
 split at hr
 · rename_i us' hseq
   split at hr
   · cases hr
     refine wp_region_list ?_
     have := seqU_ok (Q := Q) (L := L) (rest := []) h0 (seqU_mono (stR_le r0 σ) hseq) H hF (fun j hj => hL j (by rw [Array.length_toList] at hj; exact hj)) hcs' hhs' fun A' S' F' a' w' H' hF' hF2 => k a' w' (fin H' (by rw [Array.length_toList] at hF'; exact hF') fun j hj => ?_)
     · rwa [List.append_nil] at this
     rcases hF2 j hj with q | ⟨x, hx⟩
     · exact (hF0 j q).imp (fun z => z) fun ⟨x, hx⟩ => ⟨x, List.mem_append_right _ hx⟩
     exact .inr ⟨x, List.mem_append_left _ hx⟩
   split at hr
   · rename_i hb
     cases hr
     rw [Bool.and_eq_true, Bool.and_eq_true] at hb
     obtain ⟨d1, d2, d3⟩ := hdr hb.1
     subst d3
     refine wp_region_any hb.2.2 ?_
     have H1 : OkF o n A S F (stE σ) (stR σ) a { w with drawn := w.drawn + 1 } := ⟨H.size, H.nodef, H.env, H.sall, H.rall, H.frm.on ⟨rfl, rfl, rfl, Nat.le_refl _, fun _ _ => rfl⟩, H.args, H.pin⟩
     exact drawn_ok h0 hseq rfl hb.2.1 hcs' hhs' (fun A' S' F' a' w' H' hF' => k a' w' (fin H' (fun j hj _ => hF' j hj) fun j _ => .inl (d2 j))) H1 fun j hj => hF j hj (d1 j)
   cases hr
 cases hr
theorem regS_nx {ops : Array Oper} {d : Bool} {us : List Upd} (hr : regS P T sd dr hn n ops d σ = some (us, σ')) : σ.nx ≤ σ'.nx := by
 unfold regS at hr
 split at hr
 · split at hr
   · cases hr; exact Nat.le_add_right _ _
   split at hr
   · cases hr; exact Nat.le_add_right _ _
   cases hr
 cases hr
theorem litOf_ok (h : OkI o n r0 F0 L σ a w) {c : Operand} {b : Bool} (hb : litOf σ c = some b) : a.eval c = .bool b := by
 obtain ⟨⟨A, S, F, H, _⟩, h0⟩ := h
 unfold litOf at hb
 split at hb
 · rename_i t
   split at hb
   · rename_i b' he
     cases hb
     have := (H.env t _ he).1 (fun l hl => by cases hl)
     simp only [Act.eval, Array.getD_eq_getD_getElem?]
     rw [show a.tmps[t]? = some (.bool b) from this]; rfl
   cases hb
 · cases hb; rfl
 cases hb
theorem exec_ok {x : ExR} (hL : ∀ j, j < x.σ.nx → L j) (hdr : dr = true → (∀ j, L j) ∧ (∀ j, F0 j) ∧ r0 = fun _ => none) : ∀ {f : Nat} {st : List It} {σ : St2} {cs : List Prop} {hs : List Hid} {a : Act} {w : World}, exec P T sd dr hn n B f st σ cs hs = some x → ((∀ p ∈ cs, p ∈ x.cs) ∧ (∀ p ∈ hs, p ∈ x.hs) ∧ σ.nx ≤ x.σ.nx) ∧ (OkI o n r0 F0 L σ a w → (∀ p ∈ x.cs, p) → (∀ h ∈ x.hs, ∀ A w, h.lhs A w = h.rhs A w) → (∀ a' w', OkI o n r0 F0 L x.σ a' w' → post P B Q x.st .normal a' w') → post P B Q st .normal a w) := by
 intro f
 induction f with
 | zero => intro st σ cs hs a w h; cases h
 | succ f ih =>
   intro st σ cs hs a w h
   have stop : some (⟨cs, hs, st, σ⟩ : ExR) = some x → ((∀ p ∈ cs, p ∈ x.cs) ∧ (∀ p ∈ hs, p ∈ x.hs) ∧ σ.nx ≤ x.σ.nx) ∧ (OkI o n r0 F0 L σ a w → (∀ p ∈ x.cs, p) → (∀ h ∈ x.hs, ∀ A w, h.lhs A w = h.rhs A w) → (∀ a' w', OkI o n r0 F0 L x.σ a' w' → post P B Q x.st .normal a' w') → post P B Q st .normal a w) := fun e => by
     cases e; exact ⟨⟨fun _ h => h, fun _ h => h, Nat.le_refl _⟩, fun h _ _ k => k a w h⟩
   unfold exec at h
   split at h
   · rename_i i r
     obtain ⟨h1, h2⟩ := ih (a := a) (w := w) h
     exact ⟨h1, h2⟩
   · rename_i p r
     have inner : ∀ {R : Prop}, R → (OkI o n r0 F0 L σ a w → (∀ p ∈ x.cs, p) → (∀ h ∈ x.hs, ∀ A w, h.lhs A w = h.rhs A w) → (∀ a' w', OkI o n r0 F0 L x.σ a' w' → post P B Q x.st .normal a' w') → (sub B p).wp P (post P B Q r) a w) → R ∧ (OkI o n r0 F0 L σ a w → (∀ p ∈ x.cs, p) → (∀ h ∈ x.hs, ∀ A w, h.lhs A w = h.rhs A w) → (∀ a' w', OkI o n r0 F0 L x.σ a' w' → post P B Q x.st .normal a' w') → post P B Q (.run p :: r) .normal a w) := fun h1 h2 => ⟨h1, h2⟩
     split at h
     · rename_i c1 c2 hc
       obtain ⟨h1, h2⟩ := ih (a := a) (w := w) h
       refine inner h1 fun q1 q2 q3 q4 => ?_
       have := h2 q1 q2 q3 q4
       have this : (sub B (p ++ [0])).wp P (Exit.then (fun a w => (sub B (p ++ [1])).wp P (post P B Q r) a w) (post P B Q r)) a w := this
       rw [sub_snoc, hc, sub_seq0] at this
       rw [hc]
       refine wp_seq (wp_mono this fun e a w z => ?_)
       cases e <;> first | exact z | skip
       have z : (sub B (p ++ [1])).wp P (post P B Q r) a w := z
       rw [sub_snoc, hc, sub_seq1] at z
       exact z
     · rename_i i c1 hc
       obtain ⟨h1, h2⟩ := ih (a := a) (w := w) h
       refine inner h1 fun q1 q2 q3 q4 => ?_
       have this : (sub B (p ++ [0])).wp P (Exit.inBlock i (post P B Q r)) a w := h2 q1 q2 q3 q4
       rw [sub_snoc, hc, sub_block0] at this
       rw [hc]
       exact wp_block this
     · rename_i hc
       obtain ⟨h1, h2⟩ := ih (a := a) (w := w) h
       refine inner h1 fun q1 q2 q3 q4 => ?_
       rw [hc]
       exact wp_skip (h2 q1 q2 q3 q4)
     · rename_i i hc
       split at h
       · rename_i r' hu
         obtain ⟨h1, h2⟩ := ih (a := a) (w := w) h
         refine inner h1 fun q1 q2 q3 q4 => ?_
         rw [hc]
         exact wp_exit (unw_ok hu (h2 q1 q2 q3 q4))
       cases h
     · rename_i id ops d hc
       split at h
       · rename_i y hy
         have hm := (ih (a := a) (w := w) h).1
         refine inner ⟨fun q hq => hm.1 q (List.mem_append_left _ hq), fun q hq => hm.2.1 q (List.mem_append_left _ hq), Nat.le_trans (regS_nx (σ' := y.2) hy) hm.2.2⟩ fun q1 q2 q3 q4 => ?_
         rw [hc]
         exact reg_ok (σ' := y.2) q1 hy (fun j hj => hL j (Nat.lt_of_lt_of_le hj hm.2.2)) hdr (fun q hq => q2 q (hm.1 q (List.mem_append_right _ hq))) (fun q hq => q3 q (hm.2.1 q (List.mem_append_right _ hq))) fun a' w' h' => (ih (a := a') (w := w') h).2 h' q2 q3 q4
       exact stop h
     · rename_i c c1 c2 hc
       split at h
       · rename_i hb
         obtain ⟨h1, h2⟩ := ih (a := a) (w := w) h
         refine inner h1 fun q1 q2 q3 q4 => ?_
         have this : (sub B (p ++ [0])).wp P (post P B Q r) a w := h2 q1 q2 q3 q4
         rw [sub_snoc, hc, sub_cond0] at this
         rw [hc]
         exact wp_cond_true (litOf_ok q1 hb) this
       · rename_i hb
         obtain ⟨h1, h2⟩ := ih (a := a) (w := w) h
         refine inner h1 fun q1 q2 q3 q4 => ?_
         have this : (sub B (p ++ [1])).wp P (post P B Q r) a w := h2 q1 q2 q3 q4
         rw [sub_snoc, hc, sub_cond1] at this
         rw [hc]
         exact wp_cond_false (litOf_ok q1 hb) this
       exact stop h
     exact stop h
   exact stop h
end
structure At (P : Program) (T : List (Con P)) (B : Code) (Q : Post) (st : List It) (a : Act) (w : World) : Prop where
 get : post P B Q st .normal a w
def xS : Option ExR → St2
 | some x => x.σ
 | none => ⟨[], [], 0⟩
def xI : Option ExR → List It
 | some x => x.st
 | none => []
def xC : Option ExR → List Prop
 | some x => x.cs
 | none => [False]
def xH : Option ExR → List Hid
 | some x => x.hs
 | none => []
abbrev exq (P : Program) (T : List (Con P)) (hn : List (Nat × Bool)) (n : Nat) (B : Code) (st : List It) (σ : St2) : Option ExR := exec P T 4096 true hn n B 5000 st σ [] []
def topC (B : Code) (σ : St2) : List It → Option (BE × List Nat × List It)
 | .run p :: r => match sub B p with
   | .cond (.tmp t) _ _ => match stE σ t with
     | some ⟨[], .one (.b e)⟩ => some (e, p, r)
     | _ => none
   | _ => none
 | _ => none
def topL (B : Code) : List It → Option (List Nat × List It)
 | .run p :: r => match sub B p with
   | .loop _ => some (p, r)
   | _ => none
 | _ => none
def oP {α β : Type} (x : Option (α × List Nat × β)) : List Nat := match x with
 | some y => y.2.1
 | none => []
def oR {α : Type} (x : Option (α × List Nat × List It)) : List It := match x with
 | some y => y.2.2
 | none => []
def lP (x : Option (List Nat × List It)) : List Nat := match x with
 | some y => y.1
 | none => []
def lR (x : Option (List Nat × List It)) : List It := match x with
 | some y => y.2
 | none => []
def rnOf : List (Nat × Option Nat) → Nat → Option (Option Nat)
 | [], _ => none
 | p :: l, j => match Nat.beq p.1 j with
   | true => some p.2
   | false => rnOf l j
def Sc.rn (ρ : List (Nat × Option Nat)) : Sc → Option Sc
 | .v x => some (.v x)
 | .b e => some (.b (.raw e.den))
 | .own j => match rnOf ρ j with
   | some (some k) => some (.own k)
   | some none => some (.v (.slice none 0 0))
   | none => none
 | .mp j => match rnOf ρ j with
   | some (some k) => some (.mp k)
   | some none => some (.v (.map none))
   | none => none
 | .ptr j off => match rnOf ρ j with
   | some (some k) => some (.ptr k off)
   | _ => none
 | .el _ _ _ _ => none
 | .clo f caps => (rnCaps ρ caps).map (.clo f)
 | .hd _ _ _ => none
 | .pd j => match rnOf ρ j with
   | some (some k) => some (.pd k)
   | some none => some (.v (.pointer none))
   | none => none
where rnCaps (ρ : List (Nat × Option Nat)) : List (Nat × Nat) → Option (List (Nat × Nat))
 | [] => some []
 | c :: l => match rnOf ρ c.1, rnCaps ρ l with
   | some (some k), some l' => some ((k, c.2) :: l')
   | _, _ => none
def Sc.nrm : Sc → Sc
 | .b e => .b (.raw e.den)
 | s => s
def rnL (ρ : List (Nat × Option Nat)) : List Sc → Option (List Sc)
 | [] => some []
 | c :: l => match c.rn ρ, rnL ρ l with
   | some c', some l' => some (c' :: l')
   | _, _ => none
def Sy.rn (ρ : List (Nat × Option Nat)) : Sy → Option Sy
 | .one s => (s.rn ρ).map .one
 | .agg cs => (rnL ρ cs).map .agg
 | .tup _ => none
def Sy.nrm : Sy → Sy
 | .one s => .one s.nrm
 | .agg cs => .agg (cs.map Sc.nrm)
 | .tup ps => .tup ps
theorem Sc.nrm_den (A : Asg) : ∀ s : Sc, s.nrm.den A = s.den A
 | .b _ => rfl
 | .v _ => rfl
 | .own _ => rfl
 | .mp _ => rfl
 | .ptr _ _ => rfl
 | .el _ _ _ _ => rfl
 | .clo _ _ => rfl
 | .hd _ _ _ => rfl
 | .pd _ => rfl
theorem Sy.nrm_den (A : Asg) : ∀ s : Sy, s.nrm.den A = s.den A
 | .one s => Sc.nrm_den A s
 | .agg cs => by simp only [nrm, den, List.map_map]; congr 2; exact List.map_congr_left fun c _ => Sc.nrm_den A c
 | .tup _ => rfl
def isRo : R2 → Bool
 | .ro _ _ => true
 | .mro _ _ _ => true
 | _ => false
def frzL (r : Nat → Option R2) (ρ : List (Nat × Option Nat)) : List (Nat × Option R2) → List (Nat × Option R2)
 | [] => []
 | (j, some x) :: l => match isRo x, rnOf ρ j with
   | true, some (some k) => match r k with
     | some y => match frzOf y with
       | some z => (k, some z) :: frzL r ρ l
       | none => frzL r ρ l
     | none => frzL r ρ l
   | _, _ => frzL r ρ l
 | (_, none) :: l => frzL r ρ l
def R2.rn (ρ : List (Nat × Option Nat)) : R2 → Option R2
 | .box t cs => (rnL ρ cs).map (.box t)
 | .ext (.nest q h e t ie l) => match rnOf ρ q with
   | some (some k) => some (.ext (.nest k h e t ie l))
   | _ => none
 | .ext (.nmap q k h t ie m) => match rnOf ρ q with
   | some (some p) => some (.ext (.nmap p k h t ie m))
   | _ => none
 | x => some x
def R2.nrm : R2 → R2
 | .box t cs => .box t (cs.map Sc.nrm)
 | x => x
def nilR : R2 → Option R2
 | .row e t [] => some (.row e t [])
 | .ro t [] => some (.ro t [])
 | .ext (.nest q none e t ie []) => some (.ext (.nest q none e t ie []))
 | .ext (.pro t x) => match (show Option (El t) from x) with
   | none => some (.ext (.pro t (none : Option (El t))))
   | some _ => none
 | .mro k t m => match (show List (KEl k × El t) from m) with
   | [] => some (.mro k t ([] : List (KEl k × El t)))
   | _ => none
 | _ => none
def envOkB (ρ : List (Nat × Option Nat)) (σ σ' : St2) : Prop := (σ'.env.map fun p => p.2.map fun e => (e.ch, e.sy.rn ρ)) = σ'.env.map fun p => (stE σ p.1).map fun e => (e.ch, some e.sy.nrm)
def R2.rnJ (ρ : List (Nat × Option Nat)) (j : Nat) (x : R2) : Option R2 := match rnOf ρ j with
 | some none => some x
 | _ => x.rn ρ
def rsOkB (ρ : List (Nat × Option Nat)) (σ σ' : St2) : Prop := (σ'.rs.map fun p => p.2.bind (R2.rnJ ρ p.1)) = σ'.rs.map fun p => match rnOf ρ p.1 with
 | some (some k) => (setM (stR σ) (frzL (stR σ) ρ σ'.rs) k).map R2.nrm
 | some none => p.2.bind nilR
 | none => none
def R2.famB (k : Nat) : R2 → Bool
 | .ext (.nest q _ _ _ _ _) => Nat.blt q k
 | .ext (.nmap q _ _ _ _ _) => Nat.blt q k
 | .box _ _ => false
 | _ => true
def idsOkB (ρ : List (Nat × Option Nat)) (σ' : St2) : Bool :=
 ρ.all (fun p => Nat.blt p.1 σ'.nx) && (σ'.env.all (fun p => match p.2 with | some e => e.ch.isEmpty | none => false) && (σ'.rs.all (fun p => match p.2 with | some x => (match rnOf ρ p.1 with | some (some _) => (x.rn ρ).isSome | some none => x.famB σ'.nx | none => false) | none => false) && σ'.rs.all fun p => σ'.rs.all fun q => Nat.beq p.1 q.1 || (match rnOf ρ p.1, rnOf ρ q.1 with | some (some j), some (some k) => !Nat.beq j k | _, _ => true)))
theorem rnOf_mem : ∀ {ρ : List (Nat × Option Nat)} {j : Nat} {x : Option Nat}, rnOf ρ j = some x → (j, x) ∈ ρ
 | [], _, _, h => by cases h
 | p :: l, j, x, h => by
   simp only [rnOf] at h
   split at h
   · rename_i e
     cases h
     rw [← beq_t e]; exact List.mem_cons_self
   exact List.mem_cons_of_mem _ (rnOf_mem h)
theorem frzL_ok {r : Nat → Option R2} {ρ : List (Nat × Option Nat)} : ∀ {l : List (Nat × Option R2)}, Frz r (frzL r ρ l)
 | [] => fun _ h => by cases h
 | (j, none) :: l => frzL_ok (l := l)
 | (j, some x) :: l => by
   simp only [frzL]
   split
   · rename_i k _ _
     split
     · rename_i y hr
       split
       · rename_i z hz
         intro p hp
         rcases List.mem_cons.1 hp with rfl | hp
         · exact ⟨y, z, hr, hz, rfl⟩
         exact frzL_ok p hp
       exact frzL_ok
     exact frzL_ok
   exact frzL_ok
def asgR (A : Asg) (ρ : List (Nat × Option Nat)) : Asg :=
 ⟨fun j => match rnOf ρ j with | some (some k) => A.p k | _ => none, fun j => match rnOf ρ j with | some (some k) => A.n k | _ => 0, fun j => match rnOf ρ j with | some (some k) => A.c k | _ => 0, fun j => match rnOf ρ j with | some (some k) => A.b k | _ => 0, fun j => match rnOf ρ j with | some (some k) => A.f k | _ => fun _ => undef, fun j => match rnOf ρ j with | some (some k) => A.m k | _ => none⟩
section
variable {A : Asg} {ρ : List (Nat × Option Nat)}
theorem asgR_v {j k : Nat} (h : rnOf ρ j = some (some k)) : (asgR A ρ).v j = A.v k ∧ (asgR A ρ).b j = A.b k ∧ (asgR A ρ).m j = A.m k ∧ (asgR A ρ).p j = A.p k ∧ (asgR A ρ).f j = A.f k := by
 unfold asgR Asg.v; simp only [h]; exact ⟨tv, tv, tv, tv, tv⟩
theorem asgR_p {j : Nat} (h : rnOf ρ j = some none) : (asgR A ρ).p j = none := by
 unfold asgR; simp only [h]
theorem rnCaps_ok : ∀ {l l' : List (Nat × Nat)}, Sc.rn.rnCaps ρ l = some l' → (l.map fun c => Value.pointer (some ⟨(asgR A ρ).b c.1, c.2, none⟩)) = (l'.map fun c => Value.pointer (some ⟨A.b c.1, c.2, none⟩)) ∧ ∀ c ∈ l, (rnOf ρ c.1).isSome = true
 | [], l', h => by cases h; exact ⟨rfl, fun _ q => by cases q⟩
 | c :: l, l', h => by
   simp only [Sc.rn.rnCaps] at h
   split at h
   · rename_i k l2 h1 h2
     cases h
     obtain ⟨k1, k2⟩ := rnCaps_ok h2
     refine ⟨by rw [List.map_cons, List.map_cons, k1, (asgR_v (A := A) h1).2.1], fun z hz => ?_⟩
     rcases List.mem_cons.1 hz with rfl | hz
     · rw [h1]; rfl
     exact k2 z hz
   cases h
theorem asgR_n {j : Nat} (h : rnOf ρ j = some none) : (asgR A ρ).v j = .slice none 0 0 := by
 unfold asgR Asg.v; simp only [h]
theorem asgR_m {j : Nat} (h : rnOf ρ j = some none) : (asgR A ρ).m j = none := by
 unfold asgR; simp only [h]
theorem Sc.rn_ok {s t : Sc} (h : s.rn ρ = some t) : s.den (asgR A ρ) = t.den A ∧ s.all (fun j => (rnOf ρ j).isSome = true) ∧ s.good (asgR A ρ) := by
 cases s with
 | v x => cases h; exact ⟨rfl, tv, tv⟩
 | b e => cases h; exact ⟨rfl, tv, tv⟩
 | own j =>
   simp only [rn] at h
   split at h
   · rename_i k hk; cases h; exact ⟨(asgR_v hk).1, by show (rnOf ρ j).isSome = true; rw [hk]; rfl, tv⟩
   · rename_i hk; cases h; exact ⟨asgR_n hk, by show (rnOf ρ j).isSome = true; rw [hk]; rfl, tv⟩
   cases h
 | mp j =>
   simp only [rn] at h
   split at h
   · rename_i k hk; cases h; exact ⟨by simp only [den]; rw [(asgR_v hk).2.2.1], by show (rnOf ρ j).isSome = true; rw [hk]; rfl, tv⟩
   · rename_i hk; cases h; exact ⟨by simp only [den]; rw [asgR_m hk], by show (rnOf ρ j).isSome = true; rw [hk]; rfl, tv⟩
   cases h
 | ptr j off =>
   simp only [rn] at h
   split at h
   · rename_i k hk; cases h; exact ⟨by simp only [den]; rw [(asgR_v hk).2.1], by show (rnOf ρ j).isSome = true; rw [hk]; rfl, tv⟩
   cases h
 | el _ _ _ _ => cases h
 | clo f caps =>
   obtain ⟨caps', h1, rfl⟩ := Option.map_eq_some_iff.1 h
   obtain ⟨k1, k2⟩ := rnCaps_ok (A := A) h1
   exact ⟨by simp only [den]; rw [k1], k2, tv⟩
 | hd _ _ _ => cases h
 | pd j =>
   simp only [rn] at h
   split at h
   · rename_i k hk; cases h; exact ⟨by simp only [den]; rw [(asgR_v hk).2.2.2.1], by show (rnOf ρ j).isSome = true; rw [hk]; rfl, tv⟩
   · rename_i hk; cases h; exact ⟨by simp only [den]; rw [asgR_p hk], by show (rnOf ρ j).isSome = true; rw [hk]; rfl, tv⟩
   cases h
theorem rnL_ok : ∀ {l l' : List Sc}, rnL ρ l = some l' → l.map (Sc.den (asgR A ρ)) = l'.map (Sc.den A) ∧ ∀ c ∈ l, c.all (fun j => (rnOf ρ j).isSome = true) ∧ c.good (asgR A ρ)
 | [], l', h => by cases h; exact ⟨rfl, fun _ q => by cases q⟩
 | c :: l, l', h => by
   simp only [rnL] at h
   split at h
   · rename_i c' l2 h1 h2
     cases h
     obtain ⟨k1, k2, k3⟩ := Sc.rn_ok (A := A) h1
     obtain ⟨k4, k5⟩ := rnL_ok h2
     refine ⟨by rw [List.map_cons, List.map_cons, k1, k4], fun z hz => ?_⟩
     rcases List.mem_cons.1 hz with rfl | hz
     · exact ⟨k2, k3⟩
     exact k5 z hz
   cases h
theorem Sy.rn_ok {s t : Sy} (h : s.rn ρ = some t) : s.den (asgR A ρ) = t.den A ∧ s.all (fun j => (rnOf ρ j).isSome = true) ∧ s.good (asgR A ρ) := by
 cases s with
 | one c => obtain ⟨c', h1, rfl⟩ := Option.map_eq_some_iff.1 h; exact Sc.rn_ok h1
 | agg cs =>
   obtain ⟨cs', h1, rfl⟩ := Option.map_eq_some_iff.1 h
   obtain ⟨k1, k2⟩ := rnL_ok (A := A) h1
   exact ⟨by simp only [den, k1], fun c hc => (k2 c hc).1, fun c hc => (k2 c hc).2⟩
 | tup _ => cases h
end
theorem map_eq_mem {α β : Type} {l : List α} {f g : α → β} (h : l.map f = l.map g) {x : α} (hx : x ∈ l) : f x = g x := List.map_inj_left.1 h x hx
theorem nilR_ok {x : R2} (h : some x = nilR x) {T : Stab} {w : World} {A : Asg} {ρ : List (Nat × Option Nat)} {j : Nat} (hk : rnOf ρ j = some none) : isAr x = false ∧ (∀ b, ¬ (x.den (asgR A ρ) j).has b) ∧ (x.den (asgR A ρ) j).ok T w ∧ x.good (asgR A ρ) ∧ ∀ F : Nat → Prop, (∀ k, x.famB k = true → (∀ i, i < k → F i) → x.all F) := by
 have ev := asgR_n (A := A) hk
 cases x with
 | mar k' t l => simp [nilR] at h
 | iter k' t l lf cnt cur => simp [nilR] at h
 | map k' t l => simp [nilR] at h
 | ar t l => simp [nilR] at h
 | box t cs => simp [nilR] at h
 | mro k' t l =>
   have key : ∀ m : List (KEl k' × El t), some (R2.mro k' t m) = nilR (.mro k' t m) → m = [] := fun m => by
     cases m with
     | nil => exact fun _ => rfl
     | cons _ _ => intro q; cases q
   have e := key l h
   subst e
   refine ⟨rfl, (fun b q => by cases q), ?_, tv, fun F k _ _ => trivial⟩
   show Rd T w (.map ((asgR A ρ).m j)) (show MapD k' (El t) from ([] : List (KEl k' × El t)))
   rw [asgR_m hk]; exact map_rd ⟨none, rfl, rfl⟩
 | ro t l =>
   cases l with
   | nil =>
     refine ⟨rfl, (fun b q => by cases q), ?_, tv, fun F k _ _ => trivial⟩
     show Rd T w ((asgR A ρ).v j) ([] : List (El t))
     rw [ev]; exact rd_nil
   | cons _ _ => simp [nilR] at h
 | row e t l =>
   cases l with
   | nil =>
     refine ⟨rfl, (fun b q => by have q : ((asgR A ρ).v j).ownBlock = some b := q; rw [ev] at q; cases q), ?_, tv, fun F k _ _ => trivial⟩
     show OwnD T w e ((asgR A ρ).v j) ([] : List (El t))
     rw [ev]; exact OwnD.nil
   | cons _ _ => simp [nilR] at h
 | ext y =>
   cases y with
   | nest q hh e t ie l =>
     cases hh with
     | some _ => simp [nilR] at h
     | none =>
       cases l with
       | cons _ _ => simp [nilR] at h
       | nil =>
         refine ⟨rfl, (fun b z => ?_), ?_, tv, fun F k h1 h2 => h2 q (by simpa using Nat.blt_eq ▸ h1)⟩
         · have z : ((asgR A ρ).v j).ownBlock = some b ∨ ∃ c, c < ([] : List (El t)).length * tsz0 t ∧ _ := z
           rcases z with z | ⟨c, hc, _⟩
           · rw [ev] at z; cases z
           simp at hc
         show NestAt T w ((asgR A ρ).v j) ((asgR A ρ).f q) none e t ie ([] : List (El t))
         rw [ev]
         exact ⟨⟨[], HdAt.nil w e _, fun _ q => (by cases q), fun c x hc => by simp [flatC] at hc⟩, fun c d b hc => by simp at hc, fun c b hc => by simp at hc⟩
   | nmap q k hh t ie m => simp [nilR] at h
   | pro t x =>
     have key : ∀ m : Option (El t), some (R2.ext (.pro t m)) = nilR (.ext (.pro t m)) → m = none := fun m => by
       cases m with
       | none => exact fun _ => rfl
       | some _ => intro q; cases q
     have e := key x h
     subst e
     refine ⟨rfl, (fun b q => by cases q), ?_, tv, fun F k _ _ => trivial⟩
     show Rd T w (.pointer ((asgR A ρ).p j)) (show PtrD (El t) from (none : Option (El t)))
     rw [asgR_p hk]; exact ptr_rd rfl
   | par _ _ => simp [nilR] at h
   | prs _ _ => simp [nilR] at h
   | pas _ _ => simp [nilR] at h
theorem sub_ok {o : OrgG} {n : Nat} {σ σ' : St2} {a : Act} {w : World} (ρ : List (Nat × Option Nat)) (h : Okx o n σ a w) (h1 : envOkB ρ σ σ') (h2 : rsOkB ρ σ σ') (h3 : idsOkB ρ σ' = true) : Okx o n σ' a w := by
 obtain ⟨⟨A, S, H⟩, h0, np⟩ := h
 obtain ⟨S1, hS, H1⟩ := H.freeze (frzL_ok (r := stR σ) (ρ := ρ) (l := σ'.rs))
 unfold idsOkB at h3
 simp only [Bool.and_eq_true] at h3
 obtain ⟨i1, i2, i3, i4⟩ := h3
 have hlt : ∀ j, (rnOf ρ j).isSome = true → j < σ'.nx := fun j hj => by
   obtain ⟨x, hx⟩ := Option.isSome_iff_exists.1 hj
   have := List.all_eq_true.1 i1 _ (rnOf_mem hx)
   simpa using Nat.blt_eq ▸ this
 have henv : ∀ t e, stE σ' t = some e → e.ch = [] ∧ ∃ e', stE σ t = some e' ∧ e'.ch = [] ∧ e.sy.rn ρ = some e'.sy.nrm := fun t e he => by
   have hm : (t, some e) ∈ σ'.env := (setE_from he).resolve_left fun q => by cases q
   have hch : e.ch = [] := by
     have := List.all_eq_true.1 i2 _ hm
     simpa using this
   have := map_eq_mem h1 hm
   simp only [Option.map_some] at this
   cases he' : stE σ t with
   | none => rw [he'] at this; cases this
   | some e' =>
     rw [he'] at this
     simp only [Option.map_some, Option.some.injEq, Prod.mk.injEq] at this
     exact ⟨hch, e', rfl, by rw [← this.1]; exact hch, this.2⟩
 have setM_from : ∀ {re : List (Nat × Option R2)} {j : Nat} {x : R2}, setM (fun _ => none) re j = some x → (j, some x) ∈ re := by
   intro re
   induction re with
   | nil => intro j x h; cases h
   | cons p re ih =>
     intro j x h
     have h : updR (setM (fun _ => none) re) p.1 p.2 j = some x := h
     by_cases q : p.1 = j
     · subst q; rw [updR_same] at h; rw [← h]; exact List.mem_cons_self
     rw [updR_ne q] at h; exact List.mem_cons_of_mem _ (ih h)
 have hinj : ∀ {i j k : Nat} {x y : R2}, stR σ' i = some x → stR σ' j = some y → rnOf ρ i = some (some k) → rnOf ρ j = some (some k) → i = j := fun {i j k x y} hx hy hi hj => by
   have := List.all_eq_true.1 (List.all_eq_true.1 i4 _ (setM_from hx)) _ (setM_from hy)
   rw [Bool.or_eq_true] at this
   rcases this with q | q
   · exact beq_t q
   rw [hi, hj] at q; simp at q
 -- what a new number's piece of memory is
 have hres : ∀ j x, stR σ' j = some x → (∃ k y, rnOf ρ j = some (some k) ∧ setM (stR σ) (frzL (stR σ) ρ σ'.rs) k = some y ∧ x.den (asgR A ρ) j = y.den A k ∧ (isAr x = true → y = x) ∧ x.all (fun j => (rnOf ρ j).isSome = true) ∧ x.good (asgR A ρ)) ∨ (rnOf ρ j = some none ∧ some x = nilR x ∧ x.famB σ'.nx = true) := fun j x hx => by
   have hm : (j, some x) ∈ σ'.rs := setM_from hx
   have hs := List.all_eq_true.1 i3 _ hm
   have := map_eq_mem h2 hm
   simp only [Option.bind_some] at this
   dsimp only at hs
   split at this
   · rename_i k hk
     have hk : rnOf ρ j = some (some k) := hk
     have eJ : R2.rnJ ρ j x = x.rn ρ := by unfold R2.rnJ; rw [hk]
     rw [eJ] at this
     clear eJ
     rw [hk] at hs
     cases hy : setM (stR σ) (frzL (stR σ) ρ σ'.rs) k with
     | none =>
       rw [hy] at this
       simp only [Option.map_none] at this
       rw [this] at hs; cases hs
     | some y =>
       rw [hy] at this
       simp only [Option.map_some] at this
       refine .inl ⟨k, y, hk, hy, ?_⟩
       obtain ⟨ev, eb, em, ep, ef⟩ := asgR_v (A := A) hk
       cases x with
       | ro t l =>
         cases y <;> first | (simp [R2.rn, R2.nrm] at this; done) | skip
         have this : R2.ro t l = R2.ro _ _ := Option.some.inj this
         cases this
         exact ⟨by simp only [R2.den, ev], fun q => (by cases q), tv, tv⟩
       | ar t l =>
         cases y <;> first | (simp [R2.rn, R2.nrm] at this; done) | skip
         have this : R2.ar t l = R2.ar _ _ := Option.some.inj this
         cases this
         exact ⟨rfl, fun _ => rfl, tv, tv⟩
       | row e t l =>
         cases y <;> first | (simp [R2.rn, R2.nrm] at this; done) | skip
         have this : R2.row e t l = R2.row _ _ _ := Option.some.inj this
         cases this
         exact ⟨by simp only [R2.den, ev], fun q => (by cases q), tv, tv⟩
       | box t cs =>
         obtain ⟨cs', hc, hy2⟩ := Option.map_eq_some_iff.1 this
         cases y <;> first | (simp [R2.nrm] at hy2; done) | skip
         rename_i t2 cs2
         simp only [R2.nrm, R2.box.injEq] at hy2
         obtain ⟨rfl, rfl⟩ := hy2
         obtain ⟨k1, k2⟩ := rnL_ok (A := A) hc
         refine ⟨?_, fun q => (by cases q), fun c hc => (k2 c hc).1, fun c hc => (k2 c hc).2⟩
         simp only [R2.den, eb, k1, List.map_map]
         congr 2
         exact List.map_congr_left fun c _ => Sc.nrm_den A c
       | mro k' t l =>
         cases y <;> first | (simp [R2.rn, R2.nrm] at this; done) | skip
         have this : R2.mro k' t l = R2.mro _ _ _ := Option.some.inj this
         cases this
         exact ⟨by simp only [R2.den, em], fun q => (by cases q), tv, tv⟩
       | mar k' t l =>
         cases y <;> first | (simp [R2.rn, R2.nrm] at this; done) | skip
         have this : R2.mar k' t l = R2.mar _ _ _ := Option.some.inj this
         cases this
         exact ⟨rfl, fun _ => rfl, tv, tv⟩
       | map k' t l =>
         cases y <;> first | (simp [R2.rn, R2.nrm] at this; done) | skip
         have this : R2.map k' t l = R2.map _ _ _ := Option.some.inj this
         cases this
         exact ⟨by simp only [R2.den, em], fun q => (by cases q), tv, tv⟩
       | iter k' t l lf cnt cur =>
         cases y <;> first | (simp [R2.rn, R2.nrm] at this; done) | skip
         have this : R2.iter k' t l lf cnt cur = R2.iter _ _ _ _ _ _ := Option.some.inj this
         cases this
         exact ⟨by simp only [R2.den, eb], fun q => (by cases q), tv, tv⟩
       | ext z =>
         cases z with
         | nest q hh e t ie l =>
           simp only [R2.rn] at this
           split at this
           · rename_i q' hq
             cases y <;> first | (simp [R2.nrm] at this; done) | skip
             have this : R2.ext (.nest q' hh e t ie l) = R2.ext _ := Option.some.inj this
             cases this
             exact ⟨by simp only [R2.den, X2.den, ev, (asgR_v (A := A) hq).2.2.2.2], fun q => (by cases q), by show (rnOf ρ q).isSome = true; rw [hq]; rfl, tv⟩
           cases this
         | nmap q kc hh t ie m =>
           simp only [R2.rn] at this
           split at this
           · rename_i q' hq
             cases y <;> first | (simp [R2.nrm] at this; done) | skip
             have this : R2.ext (.nmap q' kc hh t ie m) = R2.ext _ := Option.some.inj this
             cases this
             exact ⟨by simp only [R2.den, X2.den, em, (asgR_v (A := A) hq).2.2.2.2], fun q => (by cases q), by show (rnOf ρ q).isSome = true; rw [hq]; rfl, tv⟩
           cases this
         | pro t l =>
           cases y <;> first | (simp [R2.rn, R2.nrm] at this; done) | skip
           have this : R2.ext (.pro t l) = R2.ext _ := Option.some.inj this
           cases this
           exact ⟨by simp only [R2.den, X2.den, ep], fun q => (by cases q), tv, tv⟩
         | par t l =>
           cases y <;> first | (simp [R2.rn, R2.nrm] at this; done) | skip
           have this : R2.ext (.par t l) = R2.ext _ := Option.some.inj this
           cases this
           exact ⟨rfl, fun _ => rfl, tv, tv⟩
         | prs t l =>
           cases y <;> first | (simp [R2.rn, R2.nrm] at this; done) | skip
           have this : R2.ext (.prs t l) = R2.ext _ := Option.some.inj this
           cases this
           exact ⟨by simp only [R2.den, X2.den, eb], fun q => (by cases q), tv, tv⟩
         | pas t l =>
           cases y <;> first | (simp [R2.rn, R2.nrm] at this; done) | skip
           have this : R2.ext (.pas t l) = R2.ext _ := Option.some.inj this
           cases this
           exact ⟨rfl, fun _ => rfl, tv, tv⟩
   · rename_i hk
     have hk : rnOf ρ j = some none := hk
     rw [hk] at hs
     have e : R2.rnJ ρ j x = some x := by unfold R2.rnJ; rw [hk]
     rw [e] at this
     exact .inr ⟨hk, this, hs⟩
   rename_i hk
   have hk : rnOf ρ j = none := hk
   rw [hk] at hs; cases hs
 refine ⟨⟨asgR A ρ, S1, ?_⟩, fun t e he => (henv t e he).1, np⟩
 refine ⟨H1.size, H1.nodef, fun t e he => ?_, fun t e he _ => ?_, fun j x hj => ?_, ?_, fun j x hj => ?_, ⟨fun j hj => (np j hj).elim, fun j hj => (np j hj).elim⟩⟩
 · obtain ⟨hch, e', he', hch', hrn⟩ := henv t e he
   have hv := (H1.env t e' he').1 (by rw [hch']; exact fun l hl => by cases hl)
   refine ⟨fun _ => ?_, fun q => (q (by rw [hch]; exact fun l hl => by cases hl)).elim⟩
   show a.tmps[t]? = some (e.sy.den (asgR A ρ))
   rw [(Sy.rn_ok hrn).1, Sy.nrm_den]; exact hv
 · obtain ⟨hch, e', he', hch', hrn⟩ := henv t e he
   obtain ⟨_, k2, k3⟩ := Sy.rn_ok (A := A) hrn
   exact ⟨Sy.mono hlt k2, k3⟩
 · rcases hres j x hj with ⟨k, y, hk, hy, hd, _, ha, hg⟩ | ⟨hk, hx, hfb⟩
   · exact ⟨hlt j (by rw [hk]; rfl), R2.mono hlt ha, hg⟩
   obtain ⟨_, _, _, q4, q5⟩ := nilR_ok (A := A) (T := S1) (w := w) hx hk
   exact ⟨hlt j (by rw [hk]; rfl), q5 _ _ hfb fun i hi => hi, q4⟩
 · have hmem : ∀ {j : Nat} {r : Rs}, memF (asgR A ρ) (stR σ') j = some r → (∃ k x, stR σ' j = some x ∧ rnOf ρ j = some (some k) ∧ memF A (setM (stR σ) (frzL (stR σ) ρ σ'.rs)) k = some r) ∨ ((∀ b, ¬ r.has b) ∧ r.ok S1 w) := fun {j r} hj => by
     obtain ⟨x, hx, rfl⟩ := Option.map_eq_some_iff.1 hj
     rcases hres j x hx with ⟨k, y, hk, hy, hd, _, ha, hg⟩ | ⟨hk, hx2, _⟩
     · exact .inl ⟨k, x, hx, hk, by show (setM (stR σ) _ k).map _ = _; rw [hy, hd]; rfl⟩
     obtain ⟨_, q2, q3, _⟩ := nilR_ok (A := A) (T := S1) (w := w) hx2 hk
     exact .inr ⟨q2, q3⟩
   refine ⟨H1.frm.chg, H1.frm.src, H1.frm.inb, fun j r hj => ?_, fun j r b hj hb => ?_, fun i j ri rj b hi hj ei ej => ?_⟩
   · rcases hmem hj with ⟨k, _, _, _, hk⟩ | ⟨_, hk⟩
     · exact H1.frm.ok k r hk
     exact hk
   · rcases hmem hj with ⟨k, _, _, _, hk⟩ | ⟨hk, _⟩
     · exact H1.frm.own k r b hk hb
     exact (hk b hb).elim
   rcases hmem hi with ⟨k, x, hx, hk1, hk⟩ | ⟨hk, _⟩
   · rcases hmem hj with ⟨l, y, hy, hl1, hl⟩ | ⟨hl, _⟩
     · have := H1.frm.apart k l ri rj b hk hl ei ej
       subst this
       exact hinj hx hy hk1 hl1
     exact (hl b ej).elim
   exact (hk b ei).elim
 rcases hres j _ hj with ⟨k, y, hk, hy, hd, hr, ha, hg⟩ | ⟨hk, hx, _⟩
 · cases hia : isAr x with
   | false => exact arOk_not hia
   | true =>
     have := hr hia
     subst this
     obtain ⟨ev, eb, em, ep, ef⟩ := asgR_v (A := A) hk
     have := H1.args k y hy
     cases y with
     | ar t l => show Rd _ _ _ _; rw [ev]; exact this
     | mar k' t l => show Rd _ _ _ _; rw [em]; exact this
     | ext z =>
       cases z with
       | par t l => show Rd _ _ _ _; rw [ep]; exact this
       | pas t l => show PtrAt _ _ _ _; rw [eb]; exact this
       | _ => cases hia
     | _ => cases hia
 exact arOk_not (nilR_ok (A := A) (T := S1) (w := w) hx hk).1
section
variable {P : Program} {o : OrgG} {n : Nat} {σ σ' : St2} {a : Act} {w : World} {T : List (Con P)} {B : Code} {Q : Post} {st : List It}
theorem go {pr : Prop} (hn : List (Nat × Bool)) (h : Okx o n σ a w) (hp : pr) (k : ∀ a w, Okx o n (xS (exq P T hn n B st σ)) a w → At P T B Q (xI (exq P T hn n B st σ)) a w)
   (h1 : (exq P T hn n B st σ).isSome = true := by delta exq; kernel_rfl) (h2 : All (xC (exq P T hn n B st σ)) = pr := by delta exq; kernel_rfl)
   (h3 : ∀ A w, (xH (exq P T hn n B st σ)).map (fun h => h.lhs A w) = (xH (exq P T hn n B st σ)).map fun h => h.rhs A w := by delta exq; intro A w; kernel_rfl) : At P T B Q st a w := by
 obtain ⟨x, hx⟩ := Option.isSome_iff_exists.1 h1
 rw [hx] at h2 h3 k
 refine ⟨(exec_ok (Q := Q) (fun _ _ => trivial) (fun _ => ⟨fun _ => trivial, fun _ => trivial, rfl⟩) hx).2 h.i (all_iff.1 (by show All x.cs; rw [show All x.cs = pr from h2]; exact hp)) (fun y hy A w => ?_) fun a w h' => (k a w (h'.x h.np)).get⟩
 exact map_eq_mem (h3 A w) hy
theorem go0 (hn : List (Nat × Bool)) (h : Okx o n σ a w) (k : ∀ a w, Okx o n (xS (exq P T hn n B st σ)) a w → At P T B Q (xI (exq P T hn n B st σ)) a w)
   (h1 : (exq P T hn n B st σ).isSome = true := by delta exq; kernel_rfl) (h2 : All (xC (exq P T hn n B st σ)) = True := by delta exq; kernel_rfl)
   (h3 : ∀ A w, (xH (exq P T hn n B st σ)).map (fun h => h.lhs A w) = (xH (exq P T hn n B st σ)).map fun h => h.rhs A w := by delta exq; intro A w; kernel_rfl) : At P T B Q st a w := go hn h tv k h1 h2 h3
theorem go_if {p q : Prop} (h : Okx o n σ a w) (k1 : p → At P T B Q (.run (oP (topC B σ st) ++ [0]) :: oR (topC B σ st)) a w) (k2 : q → At P T B Q (.run (oP (topC B σ st) ++ [1]) :: oR (topC B σ st)) a w)
   (hc : (topC B σ st).map (fun x => (x.1.is true, x.1.is false)) = some (p, q) := by kernel_rfl) : At P T B Q st a w := by
 obtain ⟨⟨A, S, H⟩, h0, np⟩ := h
 obtain ⟨⟨e, pt, r⟩, hx, hpq⟩ := Option.map_eq_some_iff.1 hc
 rw [hx] at k1 k2
 simp only [Prod.mk.injEq] at hpq
 obtain ⟨rfl, rfl⟩ := hpq
 unfold topC at hx
 split at hx
 · rename_i p' r'
   split at hx
   · rename_i t c1 c2 hcode
     split at hx
     · rename_i e' he
       cases hx
       have hv := (H.env t _ he).1 (fun l hl => by cases hl)
       have hv : a.eval (.tmp t) = .bool e.den := by
         simp only [Act.eval, Array.getD_eq_getD_getElem?]
         rw [show a.tmps[t]? = some (.bool e.den) from hv]; rfl
       refine ⟨?_⟩
       show (sub B pt).wp P (post P B Q r) a w
       rw [hcode]
       refine wp_cond_split hv (fun z => ?_) (fun z => ?_)
       · have := k1 ((BE.is_iff e true).2 z)
         have this : (sub B (pt ++ [0])).wp P (post P B Q r) a w := this.get
         rw [sub_snoc, hcode, sub_cond0] at this
         exact this
       have := k2 ((BE.is_iff e false).2 z)
       have this : (sub B (pt ++ [1])).wp P (post P B Q r) a w := this.get
       rw [sub_snoc, hcode, sub_cond1] at this
       exact this
     cases hx
   cases hx
 cases hx
theorem go_loop (X : Type) (σ' : X → St2) (I : X → Prop) (μ : X → Nat) (x0 : X) (ρ : List (Nat × Option Nat)) (h : Okx o n σ a w) (h0 : I x0)
   (round : ∀ (x : X) (a : Act) (w : World) (K : Act → World → Prop), (∀ (y : X) (ρ : List (Nat × Option Nat)) {σ1 : St2} {a : Act} {w : World}, Okx o n σ1 a w → I y → μ y < μ x →
       (h1 : envOkB ρ σ1 (σ' y) := by delta envOkB; kernel_rfl) → (h2 : rsOkB ρ σ1 (σ' y) := by delta rsOkB; kernel_rfl) → (h3 : idsOkB ρ (σ' y) = true := by kernel_rfl) → K a w) →
     I x → Okx o n (σ' x) a w → At P T B Q (.run (lP (topL B st) ++ [0]) :: .lp K :: lR (topL B st)) a w)
   (ht : (topL B st).isSome = true := by kernel_rfl) (h1 : envOkB ρ σ (σ' x0) := by delta envOkB; kernel_rfl) (h2 : rsOkB ρ σ (σ' x0) := by delta rsOkB; kernel_rfl) (h3 : idsOkB ρ (σ' x0) = true := by kernel_rfl) : At P T B Q st a w := by
 obtain ⟨⟨pt, r⟩, hx⟩ := Option.isSome_iff_exists.1 ht
 rw [hx] at round
 unfold topL at hx
 split at hx
 · rename_i p' r'
   split at hx
   · rename_i b hcode
     cases hx
     refine ⟨?_⟩
     show (sub B pt).wp P (post P B Q r) a w
     refine go_loop_ (P := P) (B := B) (p := pt) (Q := post P B Q r) X (fun x a w => Okx o n (σ' x) a w ∧ I x) μ x0 ⟨sub_ok ρ h h1 h2 h3, h0⟩ (fun x a w hI => ?_) (by rw [hcode]; rfl)
     exact (round x a w (fun a w => ∃ y, (Okx o n (σ' y) a w ∧ I y) ∧ μ y < μ x) (fun y ρ _ _ _ h hI hμ h1 h2 h3 => ⟨y, ⟨sub_ok ρ h h1 h2 h3, hI⟩, hμ⟩) hI.2 hI.1).get
   cases hx
 cases hx
theorem lp_ {K : Act → World → Prop} (k : K a w) (ht : (match st with | .lp K :: _ => some K | _ => none) = some K := by kernel_rfl) : At P T B Q st a w := by
 split at ht
 · cases ht; exact ⟨k⟩
 cases ht
theorem lenAt (h : Okx o n σ a w) (j : Nat) {t : Ty} {l : List (El t)} (hj : (stR σ j).bind asList = some ⟨t, l⟩ := by kernel_rfl) : (l.length : Int) ≤ 9223372036854775807 := by
 obtain ⟨A, S, H⟩ := h.ok
 obtain ⟨x, hx, hl⟩ := Option.bind_eq_some_iff.1 hj
 obtain ⟨p, c, _, h1, h2⟩ := slice_header (rd_slice (asList_rd H hx hl))
 have : maxLen ≤ 9223372036854775807 := by decide
 omega
theorem same (σ' : St2) (ρ : List (Nat × Option Nat)) (h : Okx o n σ a w) (h1 : envOkB ρ σ σ' := by delta envOkB; kernel_rfl) (h2 : rsOkB ρ σ σ' := by delta rsOkB; kernel_rfl) (h3 : idsOkB ρ σ' = true := by kernel_rfl) : Okx o n σ' a w := sub_ok ρ h h1 h2 h3
end
def gathV {rs : List Ty} : (ts : List Ty) → List Sy → (Vals ts → Tr (ULift.{1} (Vals rs))) → Tr (ULift.{1} (Vals rs))
 | [], [], k => k ()
 | t :: ts, y :: ys, k => gathSy t y fun x => gathV ts ys fun xs => k (x, xs)
 | _, _, _ => .fail
def resOne (a : Act) : ResultVar → Sem Value
 | .tmp t => pure (a.tmps.getD t undef)
 | .cell b t => do loadVar t (← asAddr (a.tmps.getD b undef))
def resAll (a : Act) (l : List ResultVar) (acc : Array Value) : Sem (Array Value) := l.foldlM (fun (acc : Array Value) (x : ResultVar) => do let v ← resOne a x; pure (acc.push v)) acc
theorem resAll_cons {P : Program} {a : Act} {w : World} {x : ResultVar} {v : Value} (h : (resOne a x).run P w = .ok v w) (l : List ResultVar) (acc : Array Value) : (resAll a (x :: l) acc).run P w = (resAll a l (acc.push v)).run P w := by
 unfold resAll
 rw [List.foldlM_cons, Sem.run_bind, Sem.run_bind, h]
 rfl
def noAr {α : Type 1} : List Sc → Tr α → Tr α
 | [], k => k
 | c :: l, k => match numOf c with
   | some j => .res j fun x => match isAr x with
     | true => .fail
     | false => noAr l k
   | none => noAr l k
def resT {α : Type 1} (P : Program) : List ResultVar → (List Sy → Tr α) → Tr α
 | [], k => k []
 | .tmp t :: l, k => .slot t fun e => match e.ch with
   | [] => resT P l fun ys => k (e.sy :: ys)
   | _ => .fail
 | .cell t ty :: l, k => .slot t fun e => match e.ch, e.sy with
   | [], .one (.ptr j 0) => .res j fun x => match x with
     | .box _ cs => match P.underlying ty with
       | some (.struct _) => guardT ((P.info? ty).isSome && Nat.beq (cs.take (P.cellsOf ty)).length (P.cellsOf ty)) (resT P l fun ys => k (.agg (cs.take (P.cellsOf ty)) :: ys))
       | some (.array _ _) => .fail
       | some _ => match cs with
         | c :: _ => resT P l fun ys => k (.one c :: ys)
         | [] => .fail
       | none => .fail
     | _ => .fail
   | _, _ => .fail
def topR (B : Code) : List It → Bool
 | .run p :: _ => isRet (sub B p)
 | [] => true
 | _ => false
def retV (P : Program) (fn : Func) (rs : List Ty) (σ : St2) : Option (ULift.{1} (Vals rs)) :=
 (resT P fn.results.toList fun ys => noAr (ys.flatMap syCells) (gathV rs ys fun x => .ret ⟨x⟩)).run (stE σ) (stR σ)
section
variable {P : Program} {o : OrgG} {n : Nat} {A : Asg} {S T' : Stab} {F : Nat → Prop} {s : Nat → Option E2} {r : Nat → Option R2} {σ : St2} {a : Act} {w : World} {T : List (Con P)} {B : Code} {Q : Post} {st : List It}
theorem noAr_run {α : Type 1} : ∀ {l : List Sc} {k : Tr α} {out : α}, (noAr l k).run s r = some out → (∀ c ∈ l, ∀ j, numOf c = some j → ∀ y, r j = some y → isAr y = false) ∧ k.run s r = some out
 | [], k, out, h => ⟨fun _ q => (by cases q), h⟩
 | c :: l, k, out, h => by
   simp only [noAr] at h
   split at h
   · rename_i j hc
     obtain ⟨x, hx, h⟩ := res_run h
     split at h
     · cases h
     rename_i ha
     obtain ⟨h1, h2⟩ := noAr_run h
     refine ⟨fun c' hc' i hi y hy => ?_, h2⟩
     rcases List.mem_cons.1 hc' with rfl | hc'
     · rw [hc] at hi; cases hi; rw [hx] at hy; cases hy; exact ha
     exact h1 c' hc' i hi y hy
   rename_i hc
   obtain ⟨h1, h2⟩ := noAr_run h
   refine ⟨fun c' hc' i hi y hy => ?_, h2⟩
   rcases List.mem_cons.1 hc' with rfl | hc'
   · rw [hc] at hi; cases hi
   exact h1 c' hc' i hi y hy
theorem gathV_run {rs : List Ty} : ∀ {ts : List Ty} {ys : List Sy} {k : Vals ts → Tr (ULift.{1} (Vals rs))} {out : ULift.{1} (Vals rs)}, ReadsL T' w A r (ys.flatMap syCells) → (gathV ts ys k).run s r = some out → ∃ x : Vals ts, RetsOk T' w ts (ys.map (Sy.den A)) x ∧ (k x).run s r = some out
 | [], [], k, out, _, h => ⟨(), tv, h⟩
 | [], _ :: _, _, _, _, h => by cases h
 | _ :: _, [], _, _, _, h => by cases h
 | t :: ts, y :: ys, k, out, hR, h => by
   obtain ⟨x, h1, h⟩ := gathSy_run (T := T') (fun c hc => hR c (by rw [List.flatMap_cons]; exact List.mem_append_left _ hc)) h
   obtain ⟨xs, h2, h⟩ := gathV_run (ts := ts) (ys := ys) (fun c hc => hR c (by rw [List.flatMap_cons]; exact List.mem_append_right _ hc)) h
   exact ⟨(x, xs), ⟨h1, h2⟩, h⟩
theorem box_load (H : OkF o n A S F s r a w) {j : Nat} {bt : TypeId} {cs : List Sc} (hj : r j = some (.box bt cs)) {ty : TypeId} {v : Value}
   (hv : (∃ fs, P.underlying ty = some (.struct fs) ∧ (P.info? ty).isSome = true ∧ (cs.take (P.cellsOf ty)).length = P.cellsOf ty ∧ v = .agg ((cs.take (P.cellsOf ty)).map (Sc.den A)).toArray) ∨
     ∃ d c l, P.underlying ty = some d ∧ (∀ fs, d ≠ .struct fs) ∧ (∀ k e, d ≠ .array k e) ∧ cs = c :: l ∧ v = c.den A) : (loadVar ty ⟨A.b j, 0, none⟩).run P w = .ok v w := by
 have hm : memF A r j = some (Rs.of (.box (A.b j) bt (cs.map (Sc.den A)))) := by simp [memF, hj, R2.den]
 have hb : w.heap[A.b j]? = some (.cells (cs.map (Sc.den A)).toArray bt (0, 0)) := H.frm.ok j _ hm
 have hcell : ∀ q, w.cell? ⟨A.b j, q, none⟩ = (cs.map (Sc.den A))[q]? := fun q => by rw [cell_of_row w _ q _ _ _ hb]; simp
 have key : (Instr.loadAt ty (.pointer (some ⟨A.b j, 0, none⟩))).run P w = .ok v w := by
   rcases hv with ⟨fs, h1, h2, h3, rfl⟩ | ⟨d, c, l, h1, h2, h3, rfl, rfl⟩
   · refine evOp_len (C := (· = w)) w rfl h1 ⟨fs, rfl⟩ h2 ⟨?_, fun w' hw' q hq => ?_⟩
     · rw [List.length_take] at h3; simp; exact h3
     subst hw'
     rw [Nat.zero_add, hcell, List.getElem?_toArray, List.map_take, List.getElem?_take, if_pos hq]
   exact load_one w h1 (fun fs q => h2 fs q) (fun k e q => h3 k e q) (by rw [hcell]; rfl)
 simpa [Instr.loadAt, Instr.sureAddr] using key
theorem resT_run {α : Type 1} (H : OkF o n A S F s r a w) : ∀ {l : List ResultVar} {k : List Sy → Tr α} {out : α}, (resT P l k).run s r = some out →
   ∃ ys : List Sy, (∀ (acc : Array Value), (resAll a l acc).run P w = .ok (acc ++ (ys.map (Sy.den A)).toArray) w) ∧ (k ys).run s r = some out
 | [], k, out, h => ⟨[], fun acc => by simp [resAll], h⟩
 | .tmp t :: l, k, out, h => by
   simp only [resT, Tr.run] at h
   split at h
   · rename_i e he
     split at h
     · rename_i hch
       obtain ⟨ys, h1, h2⟩ := resT_run H h
       have hv := (H.env t e he).1 (by rw [hch]; exact fun l hl => by cases hl)
       have hv : a.tmps.getD t undef = e.sy.den A := by
         rw [Array.getD_eq_getD_getElem?, show a.tmps[t]? = some (e.sy.den A) from hv]; rfl
       refine ⟨e.sy :: ys, fun acc => ?_, h2⟩
       rw [resAll_cons (v := e.sy.den A) (by simp only [resOne, hv, Sem.run_pure]), h1]
       simp
     cases h
   cases h
 | .cell t ty :: l, k, out, h => by
   simp only [resT, Tr.run] at h
   split at h
   · rename_i e he
     split at h
     · rename_i j hch hsy
       have hv := (H.env t e he).1 (by rw [hch]; exact fun l hl => by cases hl)
       rw [show (⟨t, e.ch, e.sy.den A⟩ : Ent).val = e.sy.den A from rfl, hsy] at hv
       have hv : a.tmps.getD t undef = .pointer (some ⟨A.b j, 0, none⟩) := by
         rw [Array.getD_eq_getD_getElem?, show a.tmps[t]? = some (.pointer (some ⟨A.b j, 0, none⟩)) from hv]; rfl
       obtain ⟨x, hx, h⟩ := res_run h
       have fin : ∀ (y : Sy) (ys : List Sy), (loadVar ty ⟨A.b j, 0, none⟩).run P w = .ok (y.den A) w → (∀ (acc : Array Value), (resAll a l acc).run P w = .ok (acc ++ (ys.map (Sy.den A)).toArray) w) →
           ∀ (acc : Array Value), (resAll a (.cell t ty :: l) acc).run P w = .ok (acc ++ ((y :: ys).map (Sy.den A)).toArray) w := by
         intro y ys hl h1 acc
         rw [resAll_cons (v := y.den A) (by simp only [resOne, Sem.run_bind, hv, asAddr, Sem.run_pure, Result.andThen_ok, hl]), h1]
         simp
       split at h
       · rename_i bt cs
         split at h
         · rename_i fs hu
           obtain ⟨hg, h⟩ := guardT_run h
           rw [Bool.and_eq_true] at hg
           obtain ⟨ys, h1, h2⟩ := resT_run H h
           exact ⟨_, fin _ ys (box_load H hx (.inl ⟨fs, hu, hg.1, beq_t hg.2, rfl⟩)) h1, h2⟩
         · cases h
         · rename_i d hn1 hn2 hu
           split at h
           · rename_i c cs'
             obtain ⟨ys, h1, h2⟩ := resT_run H h
             exact ⟨_, fin (.one c) ys (box_load H hx (.inr ⟨d, c, cs', hu, fun fs q => hn1 fs q, fun k e q => hn2 k e q, rfl, rfl⟩)) h1, h2⟩
           cases h
         cases h
       cases h
     cases h
   cases h
end
def mkSy (p : Bool) (cs : List Sc) : Sy := match p, cs with
 | false, [c] => .one c
 | _, cs => .agg cs
def argsSy : (ags : List (Bool × Ty)) → ArgV ags → Nat → List Sy × List (Nat × Option R2)
 | [], _, _ => ([], [])
 | p :: ags, x, b => let c := celSc p.1 b (cels p.2 x.1); let r := argsSy ags x.2 (b + c.2.length); (mkSy (isPair p.2) c.1 :: r.1, c.2 ++ r.2)
def envOf : Nat → List Sy → List (Nat × Option E2)
 | _, [] => []
 | i, y :: l => (i, some ⟨[], y⟩) :: envOf (i + 1) l
def st0 (ags : List (Bool × Ty)) (x : ArgV ags) : St2 := ⟨envOf 0 (argsSy ags x 0).1, (argsSy ags x 0).2, (argsSy ags x 0).2.length⟩
def oneV : List Value → Value
 | [y] => y
 | ys => .tuple ys.toArray
section
variable {P : Program} {o : OrgG} {n : Nat} {A : Asg} {S : Stab} {F : Nat → Prop} {s : Nat → Option E2} {r : Nat → Option R2} {σ : St2} {a : Act} {w : World} {T : List (Con P)} {B : Code} {Q : Post} {st : List It}
theorem results_run {fn : Func} {ys : List Value} (h : ∀ acc : Array Value, (resAll a fn.results.toList acc).run P w = .ok (acc ++ ys.toArray) w) : (results fn a.tmps).run P w = .ok (oneV ys) w := by
 have e : (fn.results.mapM (fun x => match x with
     | .tmp t => pure (a.tmps.getD t undef)
     | .cell b t => do loadVar t (← asAddr (a.tmps.getD b undef)) : ResultVar → Sem Value)).run P w = .ok ys.toArray w := by
   rw [Array.mapM_eq_foldlM, ← Array.foldlM_toList]
   have := h #[]
   simp only [Array.empty_append] at this
   rw [← this]
   unfold resAll
   congr 2
   all_goals (funext acc x; cases x <;> rfl)
 have hb : (results fn a.tmps).run P w = ((fn.results.mapM (fun x => match x with
     | .tmp t => pure (a.tmps.getD t undef)
     | .cell b t => do loadVar t (← asAddr (a.tmps.getD b undef)) : ResultVar → Sem Value)).run P w).andThen (fun vs w => (pure (if h : vs.size = 1 then vs[0] else .tuple vs) : Sem Value).run P w) := by
   unfold results
   rw [Sem.run_bind]
   rfl
 rw [hb, e]
 match ys with
 | [] => rfl
 | [y] => rfl
 | y :: z :: l => simp [oneV]
theorem ret_of : ∀ {rs : List Ty} {vs : List Value} {x : Vals rs}, RetsOk S w rs vs x → RetOk S w rs (oneV vs) x
 | [], [], _, h => ⟨[], rfl, h⟩
 | [t], [y], _, h => h.1
 | _ :: _ :: _, y :: z :: l, _, h => ⟨y :: z :: l, rfl, h⟩
 | [_], _ :: _ :: _, _, h => h.2.elim
 | [], _ :: _, _, h => h.elim
 | _ :: _, [], _, h => h.elim
 | _ :: _ :: _, [_], _, h => h.2.elim
theorem since_of {o : Orig} {k : Nat} (h : SinceG (OrgG.of o) w k) : Since o w k := h.imp id fun ⟨h1, h2⟩ => ⟨h1.elim id fun q => q.elim, h2⟩
theorem below_of {o : Orig} (h : Chg o.w w (OrgG.of o).G) : Below o.w.heap.size o.w w := ⟨h.os, h.tape, h.output, h.size, fun k hk => h.block k hk fun q => q⟩
theorem out {o : Orig} {fn : Func} {rs : List Ty} {fx : Vals rs} (y : Vals rs) (h : Okx (OrgG.of o) n σ a w) (e : y = fx) (ht : topR B st = true := by kernel_rfl) (hy : retV P fn rs σ = some ⟨y⟩ := by kernel_rfl) : At P T B (bodyPost P fn (Giv o fun S v w' => RetOk S w' rs v fx)) st a w := by
 obtain ⟨⟨A, S, H⟩, h0⟩ := h
 subst e
 obtain ⟨ys, h1, hy⟩ := resT_run H hy
 obtain ⟨h2, hy⟩ := noAr_run hy
 obtain ⟨x, h3, hy⟩ := gathV_run (T' := Since o w) (fun c hc j hj z hz => (reads_since H h2 c hc j hj z hz).up fun k hk => since_of hk) hy
 have hx : x = y := by have := Option.some.inj hy; exact congrArg ULift.down this
 subst hx
 have hres := results_run (ys := ys.map (Sy.den A)) h1
 unfold topR at ht
 split at ht
 · rename_i p r
   refine ⟨?_⟩
   show (sub B p).wp P (post P B _ r) a w
   have hc : sub B p = .ret := by
     cases hc : sub B p <;> rw [hc] at ht <;> first | rfl | cases ht
   rw [hc]
   refine wp_ret (post_ret ?_)
   refine bodyPost_ret hres H.nodef ⟨_, rfl, ?_, below_of H.frm.chg⟩
   exact ret_of h3
 · exact ⟨bodyPost_end hres H.nodef ⟨_, rfl, ret_of h3, below_of H.frm.chg⟩⟩
 cases ht
theorem celSc_one {k : Bool} {t : Ty} (h : isPair t = false) (b : Nat) (x : El t) : ∃ c, (celSc k b (cels t x)).1 = [c] := by
 cases t <;> first | exact ⟨_, rfl⟩ | cases h
theorem argsSy_ok : ∀ (ags : List (Bool × Ty)) (x : ArgV ags) (vs : List Value) (b : Nat) (A : Asg) (F : Nat → Prop), ArgOk o.S o.old o.w ags vs x → (∀ j, b ≤ j → ¬ F j) →
   ∃ A', Agr F A A' ∧ (argsSy ags x b).1.map (Sy.den A') = vs ∧ RoOk o o.S o.w A' b (argsSy ags x b).2 ∧ (∀ p ∈ (argsSy ags x b).2, p.1 < b + (argsSy ags x b).2.length) ∧ ∀ y ∈ (argsSy ags x b).1, y.all (FU F (argsSy ags x b).2) ∧ y.good A'
 | [], _, [], b, A, F, _, _ => ⟨A, Agr.refl _ _, rfl, tv, fun _ h => (by cases h), fun _ h => (by cases h)⟩
 | [], _, _ :: _, _, _, _, h, _ => h.elim
 | _ :: _, _, [], _, _, _, h, _ => by cases h
 | (k, t) :: ags, x, v :: vs, b, A, F, h, hF => by
   have hcells : ∃ cs, KOk o o.S o.w k cs (cels t x.1) ∧ v = (if isPair t then .agg cs.toArray else cs.headD undef) := by
     cases k with
     | true => exact rd_cells (S := o.S) (w := o.w) h.1
     | false => exact rd_cells (S := o.old) (w := o.w) h.1
   obtain ⟨cs, hcs, hv⟩ := hcells
   have hkeys := celSc_keys (k := k) (cels t x.1) b
   obtain ⟨A1, h1, h2, h3, h4⟩ := celSc_ok (B := b + (celSc k b (cels t x.1)).2.length) _ cs b A F hcs (fun j hj _ => hF j hj) fun p hp => (hkeys p hp).2
   obtain ⟨A2, k1, k2, k3, k5, k4⟩ := argsSy_ok ags x.2 vs (b + (celSc k b (cels t x.1)).2.length) A1 (FU F (celSc k b (cels t x.1)).2) h.2 fun j hj hn => by
     rcases hn with hn | ⟨z, hz⟩
     · exact hF j (by omega) hn
     have := hkeys _ hz
     omega
   have hall : ∀ c ∈ (celSc k b (cels t x.1)).1, c.all (FU F (celSc k b (cels t x.1)).2) := fun c hc => (h4 c hc).1
   have hfu : ∀ j, FU F (celSc k b (cels t x.1)).2 j → FU F (argsSy ((k, t) :: ags) x b).2 j := fun j hj => by
     rcases hj with hj | ⟨x, hx⟩
     · exact .inl hj
     exact .inr ⟨x, List.mem_append_left _ hx⟩
   have hcase : (isPair t = true ∧ mkSy (isPair t) (celSc k b (cels t x.1)).1 = .agg (celSc k b (cels t x.1)).1) ∨ ∃ c, isPair t = false ∧ (celSc k b (cels t x.1)).1 = [c] ∧ mkSy (isPair t) (celSc k b (cels t x.1)).1 = .one c := by
     cases hp : isPair t with
     | true => exact .inl ⟨rfl, rfl⟩
     | false =>
       obtain ⟨c, hc⟩ := celSc_one hp b x.1 (k := k)
       exact .inr ⟨c, rfl, hc, by rw [hc]; rfl⟩
   refine ⟨A2, h1.trans (k1.mono fun j hj => .inl hj), ?_, ?_, fun p hp => ?_, fun y hy => ?_⟩
   · show Sy.den A2 (mkSy (isPair t) (celSc k b (cels t x.1)).1) :: (argsSy ags x.2 _).1.map (Sy.den A2) = _
     rw [k2]
     congr 1
     rcases hcase with ⟨hp, e⟩ | ⟨c, hp, hc, e⟩
     · rw [e, hv, hp]
       simp only [Sy.den]
       rw [← scs_congr k1 hall, h2]; rfl
     rw [e, hv, hp]
     rw [hc] at h2 hall
     simp only [Sy.den]
     rw [← Sc.congr k1 (hall c (List.mem_singleton.2 rfl))]
     have : [Sc.den A1 c] = cs := h2
     rw [← this]; rfl
   · exact RoOk.append (RoOk.agree k1 (fun p hp => .inr ⟨p.2, hp⟩) h3) (fun p hp => (hkeys p hp).2) (by omega) k3
   · show p.1 < b + ((celSc k b (cels t x.1)).2 ++ (argsSy ags x.2 (b + (celSc k b (cels t x.1)).2.length)).2).length
     rw [List.length_append]
     have hp : p ∈ (celSc k b (cels t x.1)).2 ++ (argsSy ags x.2 (b + (celSc k b (cels t x.1)).2.length)).2 := hp
     rcases List.mem_append.1 hp with hp | hp
     · have := (hkeys p hp).2; omega
     have := k5 p hp; omega
   have hy : y = mkSy (isPair t) (celSc k b (cels t x.1)).1 ∨ y ∈ (argsSy ags x.2 (b + (celSc k b (cels t x.1)).2.length)).1 := List.mem_cons.1 hy
   rcases hy with rfl | hy
   · rcases hcase with ⟨hp, e⟩ | ⟨c, hp, hc, e⟩
     · rw [e]; exact ⟨fun c hc => Sc.mono hfu (hall c hc), fun c hc => Sc.good_congr k1 (hall c hc) (h4 c hc).2⟩
     rw [e]
     have hm : c ∈ (celSc k b (cels t x.1)).1 := by rw [hc]; exact List.mem_singleton.2 rfl
     exact ⟨Sc.mono hfu (hall c hm), Sc.good_congr k1 (hall c hm) (h4 c hm).2⟩
   refine ⟨Sy.mono (fun j hj => ?_) (k4 y hy).1, (k4 y hy).2⟩
   rcases hj with hj | ⟨z, hz⟩
   · exact hfu j hj
   exact .inr ⟨z, List.mem_append_right _ hz⟩
theorem envOf_get : ∀ {l : List Sy} {i t : Nat} {e : E2}, setE (fun _ => none) (envOf i l) t = some e → i ≤ t ∧ ∃ y, l[t - i]? = some y ∧ e = ⟨[], y⟩
 | [], i, t, e, h => by cases h
 | y :: l, i, t, e, h => by
   have h : updE (setE (fun _ => none) (envOf (i + 1) l)) i (some ⟨[], y⟩) t = some e := h
   by_cases q : i = t
   · subst q; rw [updE_same] at h; cases h; exact ⟨Nat.le_refl _, y, by rw [Nat.sub_self]; rfl, rfl⟩
   rw [updE_ne q] at h
   obtain ⟨h1, z, h2, h3⟩ := envOf_get h
   exact ⟨by omega, z, by rw [show t - i = t - (i + 1) + 1 by omega]; exact h2, h3⟩
theorem argOk_len : ∀ {ags : List (Bool × Ty)} {vs : List Value} {x : ArgV ags} {S T : Stab}, ArgOk S T w ags vs x → vs.length = ags.length
 | [], [], _, _, _, _ => rfl
 | [], _ :: _, _, _, _, h => h.elim
 | _ :: _, [], _, _, _, h => by cases h
 | (k, t) :: ags, v :: vs, x, S, T, h => by simp [argOk_len h.2]
theorem argOk_up {S T T' : Stab} (hT : ∀ k, T k → T' k) : ∀ {ags : List (Bool × Ty)} {vs : List Value} {x : ArgV ags}, ArgOk S T w ags vs x → ArgOk S T' w ags vs x
 | [], [], _, _ => trivial
 | [], _ :: _, _, h => h.elim
 | _ :: _, [], _, h => by cases h
 | (true, t) :: ags, v :: vs, x, h => ⟨h.1, argOk_up hT h.2⟩
 | (false, t) :: ags, v :: vs, x, h => ⟨Rd.up hT h.1, argOk_up hT h.2⟩
theorem con_of {f : FuncId} (fn : Func) (n : Nat) (T : List (Con P)) {ags : List (Bool × Ty)} {rs : List Ty} {dom : ArgV ags → Prop} {fx : ArgV ags → Vals rs} (hf : P.funcs[f]? = some fn)
   (k : ∀ (o : Orig) (x : ArgV ags), dom x → ∀ a w, Okx (OrgG.of o) n (st0 ags x) a w → At P T (fn.body.getD .skip) (bodyPost P fn (Giv o fun S v w' => RetOk S w' rs v (fx x))) [.run []] a w)
   (hb : fn.body.isSome = true := by kernel_rfl) (hn : fn.ntmps = n := by kernel_rfl) (hl : decide (ags.length ≤ n) = true := by kernel_rfl) : ConOk P f ags rs dom fx := by
 intro o vs x hx hdom
 have hlen := argOk_len hx
 refine enter fn n hf (fun a ha => ?_) hb hn (by rw [hlen]; exact hl)
 obtain ⟨A, h1, h2, h3, h5, h4⟩ := argsSy_ok (o := OrgG.of o) ags x vs 0 asg0 (fun _ => False) (argOk_up (fun k hk => ⟨hk, fun q => q⟩) hx) fun _ _ q => q
 have hslot : ∀ t e, stE (st0 ags x) t = some e → e.ch = [] ∧ ∃ y, (argsSy ags x 0).1[t]? = some y ∧ e = ⟨[], y⟩ := fun t e he => by
   obtain ⟨_, y, q1, q2⟩ := envOf_get he
   exact ⟨by rw [q2], y, by simpa using q1, q2⟩
 have H0 : OkF (OrgG.of o) n A o.S (fun _ => False) (fun _ => none) (fun _ => none) a o.w := ⟨ha.1, ha.2.1, fun _ _ q => (by cases q), fun _ _ q => (by cases q), fun _ _ q => (by cases q), Frm.start (OrgG.of o), fun _ _ q => (by cases q), ⟨fun _ q => q.elim, fun _ q => q.elim⟩⟩
 have H1 := H0.ro (Agr.refl _ _) h3
 have hle : ∀ j, FU (fun _ => False) (argsSy ags x 0).2 j → j < (argsSy ags x 0).2.length := fun j hj => by
   rcases hj with hj | ⟨z, hz⟩
   · exact hj.elim
   have := h5 _ hz; simpa using this
 have hfin : Okx (OrgG.of o) n (st0 ags x) a o.w := by
   refine ⟨⟨A, o.S, H1.size, H1.nodef, fun t e he => ?_, fun t e he _ => ?_, fun j y hj => ?_, H1.frm, H1.args, ⟨fun _ q => q.elim, fun _ q => q.elim⟩⟩, fun t e he => (hslot t e he).1, fun _ q => q⟩
   · obtain ⟨_, y, q1, rfl⟩ := hslot t e he
     have hv : vs[t]? = some (y.den A) := by rw [← h2, List.getElem?_map, q1]; rfl
     have htl := (List.getElem?_eq_some_iff.1 hv).1
     refine ha.2.2 ⟨t, [], y.den A⟩ (List.mem_map.2 ⟨(t, y.den A), ?_, rfl⟩)
     refine List.mem_iff_getElem?.2 ⟨t, ?_⟩
     rw [List.getElem?_zip_eq_some]
     exact ⟨by simp [htl], hv⟩
   · obtain ⟨_, y, q1, rfl⟩ := hslot t e he
     have := h4 y (List.mem_of_getElem? q1)
     exact ⟨Sy.mono hle this.1, this.2⟩
   have := H1.rall j y hj
   exact ⟨hle j this.1, R2.mono hle this.2.1, this.2.2⟩
 have := k o x hdom a o.w hfin
 have this : (sub (fn.body.getD .skip) []).wp P (post P (fn.body.getD .skip) (bodyPost P fn (Giv o fun S v w' => RetOk S w' rs v (fx x))) []) a o.w := this.get
 exact this
end
abbrev lkT : Ty := .pair .int (.pair .int .int)
abbrev edT : Ty := .pair .int .int
abbrev grT : Ty := .pair .int (.list edT)
abbrev ptT : Ty := .pair (.list .int) (.list .int)
abbrev eo (j : Nat) : Option E2 := some ⟨[], .one (.own j)⟩
abbrev em (j : Nat) : Option E2 := some ⟨[], .one (.mp j)⟩
abbrev ep (j : Nat) : Option E2 := some ⟨[], .one (.ptr j 0)⟩
abbrev en (n : Int) : Option E2 := some ⟨[], .one (.v (.int .i64 n))⟩
theorem ct {p : Prop} (h : p := by first | omega | (simp only [List.length_append, List.length_cons, List.length_nil]; omega)) : p := h
theorem bx {i : Int} {n : Nat} (h : 0 ≤ i ∧ i < (n : Int) := by first | omega | (simp only [List.length_append, List.length_cons, List.length_nil]; omega)) : Bnd i n := h
theorem ln {m n : Nat} (h : m ≤ n := by first | omega | (simp only [List.length_append, List.length_cons, List.length_nil]; omega)) : m ≤ n := h
theorem wk {x : Int} (h : -9223372036854775808 ≤ x ∧ x ≤ 9223372036854775807 := by omega) : kwf .int x := h
theorem lt_ {m n : Nat} (h : m < n := by first | omega | (simp only [List.length_append, List.length_cons, List.length_nil]; omega)) : m < n := h
def numsSc : Sc → List Nat
 | .own j => [j]
 | .mp j => [j]
 | .ptr j _ => [j]
 | .pd j => [j]
 | .el j _ _ _ => [j]
 | .clo _ caps => caps.map (·.1)
 | .hd p _ _ => [p]
 | _ => []
def reachT {α : Type 1} : Nat → List Nat → List (Nat × Option R2) → (List (Nat × Option R2) → Tr α) → Tr α
 | 0, _, _, _ => .fail
 | _ + 1, [], acc, k => k acc
 | f + 1, j :: l, acc, k => match acc.any fun p => Nat.beq p.1 j with
   | true => reachT f l acc k
   | false => .res j fun x => reachT f ((match x with | .box _ cs => cs.flatMap numsSc | _ => []) ++ l) ((j, some x) :: acc) k
def partOf : Sy → Bool × List Sc
 | .one c => (false, [c])
 | .agg cs => (true, cs)
 | .tup _ => (false, [])
def oneSy : List Sy → Sy
 | [y] => y
 | ys => .tup (ys.map partOf)
def inlT (P : Program) (T : List (Con P)) (hn : List (Nat × Bool)) (fn : Func) (b : Nat) (caps : List (Nat × Nat)) (ys : List Sy) : Tr Out :=
 reachT 300 ((ys.flatMap syCells).flatMap numsSc ++ caps.map (·.1)) [] fun rs0 =>
   match exec P T 64 false hn fn.ntmps (fn.body.getD .skip) 3000 [.run []] ⟨envOf 0 (ys ++ caps.map fun c => .one (.ptr c.1 c.2)), rs0, b⟩ [] [] with
   | some x => match topR (fn.body.getD .skip) x.st, (resT P fn.results.toList fun ys => .ret (ULift.up.{1} ys)).run (stE x.σ) (stR x.σ) with
     | true, some zs => guardT (fn.body.isSome && (decide ((ys ++ caps.map fun c => Sy.one (.ptr c.1 c.2)).length ≤ fn.ntmps) && (zs.down.all fun y => match y with | .tup _ => false | _ => true))) (.ret ⟨x.cs, x.hs, oneSy zs.down, (x.σ.nx, none) :: x.σ.rs⟩)
     | _, _ => .fail
   | none => .fail
section
variable {P : Program} {o : OrgG} {n : Nat} {A A' : Asg} {S S' : Stab} {F : Nat → Prop} {s : Nat → Option E2} {r : Nat → Option R2} {a : Act} {w w' : World} {T : List (Con P)}
theorem reachT_run {α : Type 1} : ∀ {f : Nat} {l : List Nat} {acc : List (Nat × Option R2)} {k : List (Nat × Option R2) → Tr α} {out : α}, (∀ p ∈ acc, r p.1 = p.2) → (reachT f l acc k).run s r = some out → ∃ rs, (∀ p ∈ rs, r p.1 = p.2) ∧ (k rs).run s r = some out
 | 0, _, _, _, _, _, h => by cases h
 | _ + 1, [], acc, k, out, ha, h => ⟨acc, ha, h⟩
 | f + 1, j :: l, acc, k, out, ha, h => by
   simp only [reachT] at h
   split at h
   · exact reachT_run ha h
   obtain ⟨x, hx, h2⟩ := res_run h
   refine reachT_run (fun p hp => ?_) h2
   rcases List.mem_cons.1 hp with rfl | hp
   · exact hx
   exact ha p hp
theorem setM_self {rs : List (Nat × Option R2)} (h : ∀ p ∈ rs, r p.1 = p.2) : setM r rs = r := by
 funext j
 induction rs with
 | nil => rfl
 | cons p rs ih =>
   show updR (setM r rs) p.1 p.2 j = _
   by_cases q : p.1 = j
   · subst q; rw [updR_same]; exact (h p List.mem_cons_self).symm
   rw [updR_ne q]; exact ih fun p hp => h p (List.mem_cons_of_mem _ hp)
theorem Frm.pins {f : Nat → Option Rs} (h : Frm o w S f) (F : Nat → Prop) (A : Asg) : Frm { o with pF := F, pA := A } w S f := ⟨h.chg, h.src, h.inb, h.ok, h.own, h.apart⟩
theorem Frm.unpin {f : Nat → Option Rs} {F : Nat → Prop} {A : Asg} (h : Frm { o with pF := F, pA := A } w S f) : Frm o w S f := ⟨h.chg, h.src, h.inb, h.ok, h.own, h.apart⟩
theorem ArOk.pins {F : Nat → Prop} {B : Asg} {j : Nat} {x : R2} (h : ArOk o A j x) : ArOk { o with pF := F, pA := B } A j x := by
 cases x with
 | ext z => cases z <;> exact h
 | _ => exact h
theorem ArOk.unpin {F : Nat → Prop} {B : Asg} {j : Nat} {x : R2} (h : ArOk { o with pF := F, pA := B } A j x) : ArOk o A j x := by
 cases x with
 | ext z => cases z <;> exact h
 | _ => exact h
theorem resT_all {α : Type 1} (H : OkF o n A S F s r a w) : ∀ {l : List ResultVar} {k : List Sy → Tr α} {out : α}, (resT P l k).run s r = some out →
   ∃ ys : List Sy, (∀ (acc : Array Value), (resAll a l acc).run P w = .ok (acc ++ (ys.map (Sy.den A)).toArray) w) ∧ (∀ y ∈ ys, y.all F ∧ y.good A) ∧ (k ys).run s r = some out
 | [], k, out, h => ⟨[], fun acc => by simp [resAll], fun _ q => (by cases q), h⟩
 | .tmp t :: l, k, out, h => by
   simp only [resT, Tr.run] at h
   split at h
   · rename_i e he
     split at h
     · rename_i hch
       obtain ⟨ys, h1, h3, h2⟩ := resT_all H h
       have hv := (H.env t e he).1 (by rw [hch]; exact fun l hl => by cases hl)
       have hv : a.tmps.getD t undef = e.sy.den A := by
         rw [Array.getD_eq_getD_getElem?, show a.tmps[t]? = some (e.sy.den A) from hv]; rfl
       refine ⟨e.sy :: ys, fun acc => ?_, fun y hy => ?_, h2⟩
       · rw [resAll_cons (v := e.sy.den A) (by simp only [resOne, hv, Sem.run_pure]), h1]
         simp
       rcases List.mem_cons.1 hy with rfl | hy
       · exact H.sall t e he (by rw [hch]; exact fun l hl => by cases hl)
       exact h3 y hy
     cases h
   cases h
 | .cell t ty :: l, k, out, h => by
   simp only [resT, Tr.run] at h
   split at h
   · rename_i e he
     split at h
     · rename_i j hch hsy
       have hv := (H.env t e he).1 (by rw [hch]; exact fun l hl => by cases hl)
       rw [show (⟨t, e.ch, e.sy.den A⟩ : Ent).val = e.sy.den A from rfl, hsy] at hv
       have hv : a.tmps.getD t undef = .pointer (some ⟨A.b j, 0, none⟩) := by
         rw [Array.getD_eq_getD_getElem?, show a.tmps[t]? = some (.pointer (some ⟨A.b j, 0, none⟩)) from hv]; rfl
       obtain ⟨x, hx, h⟩ := res_run h
       have fin : ∀ (y : Sy) (ys : List Sy), (loadVar ty ⟨A.b j, 0, none⟩).run P w = .ok (y.den A) w → (∀ (acc : Array Value), (resAll a l acc).run P w = .ok (acc ++ (ys.map (Sy.den A)).toArray) w) →
           ∀ (acc : Array Value), (resAll a (.cell t ty :: l) acc).run P w = .ok (acc ++ ((y :: ys).map (Sy.den A)).toArray) w := by
         intro y ys hl h1 acc
         rw [resAll_cons (v := y.den A) (by simp only [resOne, Sem.run_bind, hv, asAddr, Sem.run_pure, Result.andThen_ok, hl]), h1]
         simp
       split at h
       · rename_i bt cs
         have hall := (H.rall j _ hx).2
         split at h
         · rename_i fs hu
           obtain ⟨hg, h⟩ := guardT_run h
           rw [Bool.and_eq_true] at hg
           obtain ⟨ys, h1, h3, h2⟩ := resT_all H h
           refine ⟨_, fin _ ys (box_load H hx (.inl ⟨fs, hu, hg.1, beq_t hg.2, rfl⟩)) h1, fun y hy => ?_, h2⟩
           rcases List.mem_cons.1 hy with rfl | hy
           · exact ⟨fun c hc => hall.1 c (List.mem_of_mem_take hc), fun c hc => hall.2 c (List.mem_of_mem_take hc)⟩
           exact h3 y hy
         · cases h
         · rename_i d hn1 hn2 hu
           split at h
           · rename_i c cs'
             obtain ⟨ys, h1, h3, h2⟩ := resT_all H h
             refine ⟨_, fin (.one c) ys (box_load H hx (.inr ⟨d, c, cs', hu, fun fs q => hn1 fs q, fun k e q => hn2 k e q, rfl, rfl⟩)) h1, fun y hy => ?_, h2⟩
             rcases List.mem_cons.1 hy with rfl | hy
             · exact ⟨hall.1 c List.mem_cons_self, hall.2 c List.mem_cons_self⟩
             exact h3 y hy
           cases h
         cases h
       cases h
     cases h
   cases h
theorem oneSy_den {ys : List Sy} (h : (ys.all fun y => match y with | .tup _ => false | _ => true) = true) (A : Asg) : (oneSy ys).den A = oneV (ys.map (Sy.den A)) := by
 have hp : ∀ y ∈ ys, partDen A (partOf y) = y.den A := fun y hy => by
   have := List.all_eq_true.1 h y hy
   cases y with
   | one c => rfl
   | agg cs => rfl
   | tup ps => cases this
 match ys, hp with
 | [], _ => rfl
 | [y], _ => rfl
 | y :: z :: l, hp =>
   show Value.tuple (((y :: z :: l).map partOf).map (partDen A)).toArray = .tuple ((y :: z :: l).map (Sy.den A)).toArray
   rw [List.map_map]
   congr 2
   exact List.map_congr_left fun q hq => hp q hq
theorem oneSy_all {ys : List Sy} (h : ∀ y ∈ ys, y.all F ∧ y.good A) : (oneSy ys).all F ∧ (oneSy ys).good A := by
 have hp : ∀ y ∈ ys, ∀ c ∈ (partOf y).2, c.all F ∧ c.good A := fun y hy c hc => by
   have := h y hy
   cases y with
   | one c' => have := List.mem_singleton.1 hc; subst this; exact h _ hy
   | agg cs => exact ⟨this.1 c hc, this.2 c hc⟩
   | tup ps => cases hc
 match ys, h, hp with
 | [], _, _ => exact ⟨(fun p q => by cases q), (fun p q => by cases q)⟩
 | [y], h, _ => exact h y List.mem_cons_self
 | y :: z :: l, _, hp =>
   refine ⟨fun p hp' c hc => ?_, fun p hp' c hc => ?_⟩
   · obtain ⟨q, hq, rfl⟩ := List.mem_map.1 hp'; exact (hp q hq c hc).1
   obtain ⟨q, hq, rfl⟩ := List.mem_map.1 hp'; exact (hp q hq c hc).2
theorem inl_ok {f : FuncId} (hn : List (Nat × Bool)) {fn : Func} (hf : P.funcs[f]? = some fn) : ConTr P f (inlT P T hn fn) := by
 intro o n A S F s r a w b B caps ys out H hF hys hcaps h hcs hhs hB
 unfold inlT at h
 obtain ⟨rs0, hrs, h1⟩ := reachT_run (fun p q => by cases q) h
 clear h
 split at h1
 · rename_i x hx
   split at h1
   · rename_i zs htop hres
     obtain ⟨hg, h2⟩ := guardT_run h1
     clear h1
     simp only [Bool.and_eq_true, decide_eq_true_eq] at hg
     obtain ⟨g1, g2, g3⟩ := hg
     have e := ret_run h2
     subst e
     clear h2
     have hvals : ys.map (Sy.den A) ++ caps.map (fun c => Value.pointer (some ⟨A.b c.1, c.2, none⟩)) = (ys ++ caps.map fun c => Sy.one (.ptr c.1 c.2)).map (Sy.den A) := by
       rw [List.map_append, List.map_map]; rfl
     have hva : ∀ y ∈ ys ++ caps.map fun c => Sy.one (.ptr c.1 c.2), y.all F ∧ y.good A := fun y hy => by
       rcases List.mem_append.1 hy with hy | hy
       · exact hys y hy
       obtain ⟨c, hc, rfl⟩ := List.mem_map.1 hy
       exact ⟨hcaps c hc, tv⟩
     generalize hvv : (ys ++ caps.map fun c => Sy.one (.ptr c.1 c.2)) = vv at *
     rw [hvals]
     have hnx : x.σ.nx < B := hB (x.σ.nx, none) List.mem_cons_self
     refine enter fn fn.ntmps hf (fun a' ha => ?_) g1 rfl (by rw [List.length_map]; exact decide_eq_true g2)
     have hslot : ∀ t e, stE ⟨envOf 0 vv, rs0, b⟩ t = some e → e.ch = [] ∧ ∃ y, vv[t]? = some y ∧ e = ⟨[], y⟩ := fun t e he => by
       obtain ⟨_, y, q1, q2⟩ := envOf_get he
       exact ⟨by rw [q2], y, by simpa using q1, q2⟩
     have hself : setM r rs0 = r := setM_self hrs
     have H0 : OkF { o with pF := F, pA := A } fn.ntmps A S F (stE ⟨envOf 0 vv, rs0, b⟩) (setM r rs0) a' w := by
       rw [hself]
       refine ⟨ha.1, ha.2.1, fun t e he => ?_, fun t e he _ => ?_, H.rall, H.frm.pins F A, fun j y hy => (H.args j y hy).pins, ⟨fun _ q => q, Agr.refl _ _⟩⟩
       · obtain ⟨_, y, q1, rfl⟩ := hslot t e he
         have hv : (vv.map (Sy.den A))[t]? = some (y.den A) := by rw [List.getElem?_map, q1]; rfl
         have htl := (List.getElem?_eq_some_iff.1 hv).1
         refine ha.2.2 ⟨t, [], y.den A⟩ (List.mem_map.2 ⟨(t, y.den A), ?_, rfl⟩)
         refine List.mem_iff_getElem?.2 ⟨t, ?_⟩
         rw [List.getElem?_zip_eq_some]
         exact ⟨by rw [List.getElem?_range htl], hv⟩
       obtain ⟨_, y, q1, rfl⟩ := hslot t e he
       exact hva y (List.mem_of_getElem? q1)
     have hI : OkI { o with pF := F, pA := A } fn.ntmps r F (· < B) ⟨envOf 0 vv, rs0, b⟩ a' w := ⟨⟨A, S, F, H0, hF, fun j hj => .inl hj⟩, fun t e he => (hslot t e he).1⟩
     refine (exec_ok (Q := bodyPost P fn fun e w' => ∃ v, e = .returned v ∧ After o n F s r a ⟨x.cs, x.hs, oneSy zs.down, (x.σ.nx, none) :: x.σ.rs⟩ v w') (r0 := r) (F0 := F) (L := (· < B)) (fun j hj => Nat.lt_trans hj hnx) (fun q => by cases q) hx).2 hI hcs hhs fun a2 w2 h2 => ?_
     obtain ⟨⟨A2, S2, F2, H2, f1, f2⟩, ch⟩ := h2
     obtain ⟨zs', r1, r2, r3⟩ := resT_all H2 (Tr.mono (fun _ _ q => q) (stR_le r x.σ) _ hres)
     have hz : zs' = zs.down := by have := Option.some.inj r3; exact congrArg ULift.down this
     subst hz
     have hres' := results_run (ys := zs.down.map (Sy.den A2)) r1
     have hAft : After o n F s r a ⟨x.cs, x.hs, oneSy zs.down, (x.σ.nx, none) :: x.σ.rs⟩ (oneV (zs.down.map (Sy.den A2))) w2 := by
       refine ⟨A2, S2, ?_, (oneSy_den g3 A2).symm, ?_⟩
       · have hFU : ∀ j, F2 j → FU F ((x.σ.nx, none) :: x.σ.rs) j := fun j hj => (f2 j hj).imp id fun ⟨y, hy⟩ => ⟨y, List.mem_cons_of_mem _ hy⟩
         have H1 := H.agree H2.pin.2 (G := FU F ((x.σ.nx, none) :: x.σ.rs)) fun j hj => .inl hj
         have hle : ∀ j y, setM r ((x.σ.nx, none) :: x.σ.rs) j = some y → setM r x.σ.rs j = some y := fun j y hy => by
           have hy : updR (setM r x.σ.rs) x.σ.nx none j = some y := hy
           by_cases q : x.σ.nx = j
           · subst q; rw [updR_same] at hy; cases hy
           rwa [updR_ne q] at hy
         refine ⟨H1.size, H1.nodef, H1.env, H1.sall, fun j y hy => ?_, H2.frm.unpin.sub fun j rr hj => ?_, fun j y hy => (H2.args j y (hle j y hy)).unpin, H1.pin⟩
         · have := H2.rall j y (hle j y hy)
           exact ⟨hFU j this.1, R2.mono hFU this.2.1, this.2.2⟩
         obtain ⟨y, hy, rfl⟩ := Option.map_eq_some_iff.1 hj
         show (setM r x.σ.rs j).map _ = _
         rw [hle j y hy]; rfl
       have hFU : ∀ j, F2 j → FU F ((x.σ.nx, none) :: x.σ.rs) j := fun j hj => (f2 j hj).imp id fun ⟨y, hy⟩ => ⟨y, List.mem_cons_of_mem _ hy⟩
       have := oneSy_all r2
       exact ⟨Sy.mono hFU this.1, this.2⟩
     unfold topR at htop
     split at htop
     · rename_i p rr hst
       rw [hst]
       show (sub _ p).wp P (post P _ _ rr) a2 w2
       have hc : sub (fn.body.getD .skip) p = .ret := by
         cases hc : sub (fn.body.getD .skip) p <;> rw [hc] at htop <;> first | rfl | cases htop
       rw [hc]
       exact wp_ret (post_ret (bodyPost_ret hres' H2.nodef ⟨_, rfl, hAft⟩))
     · rename_i hst
       rw [hst]
       exact bodyPost_end hres' H2.nodef ⟨_, rfl, hAft⟩
     cases htop
   cases h1
 cases h1
def inl {f : FuncId} (T : List (Con P)) (hn : List (Nat × Bool)) {fn : Func} (hf : P.funcs[f]? = some fn) : Con P := ⟨f, inlT P T hn fn, inl_ok (T := T) hn hf⟩
theorem with_ {T : List (Con P)} {B : Code} {Q : Post} {st : List It} (T' : List (Con P)) (h : At P T' B Q st a w) : At P T B Q st a w := ⟨h.get⟩
def plain {f : FuncId} {ags : List (Bool × Ty)} {rs : List Ty} {dom : ArgV ags → Prop} {fn : ArgV ags → Vals rs} (ok : ConOk P f ags rs dom fn) : Con P := ⟨f, callP dom fn, con_plain ok⟩
end
def ktOf (P : Program) (k : Kc) : Option TypeId := (List.range 4000).find? fun t => kindB P t k
theorem ktOf_ok {P : Program} {k : Kc} {t : TypeId} (h : ktOf P k = some t) : P.underlying t = some (kdesc k) := kindB_ok (by have := List.find?_some h; exact this)
structure NX where
 k : Kc
 ty : Ty
 m : MapD k (El ty)
 lf : KEl k → Bool
 cnt : Nat
 cur : Option (KEl k × El ty)
 j : Nat
 d : Nat
def nextI (P : Program) (n : Nat) (B : Code) (σ : St2) : List It → Option NX
 | .run p :: r => match sub B p with
   | .region _ ops false => match ops.toList with
     | op :: _ => match op.op, op.dst, op.guard with
       | .next (.tmp t) false, some d, none => match stE σ t with
         | some ⟨[], .one (.ptr j 0)⟩ => match stR σ j with
           | some (.iter k ty m lf cnt cur) => match Nat.blt d n && (ktOf P k).isSome with
             | true => some ⟨k, ty, m, lf, cnt, cur, j, d⟩
             | false => none
           | _ => none
         | _ => none
       | _, _, _ => none
     | _ => none
   | _ => none
 | _ => none
def nextR (P : Program) (T : List (Con P)) (n : Nat) (B : Code) (σ : St2) (y : Sy) (re : List (Nat × Option R2)) (d : Nat) : List It → Option St2
 | .run p :: _ => match sub B p with
   | .region _ ops false => match seqU P T 4096 [] n ops (stE σ) (stR σ) (ops.toList.drop 1) (σ.nx + 4096) [(d, some ⟨[], y⟩)] re with
     | some us => match (us.all fun u => u.cs.isEmpty && u.hs.isEmpty) && (re.all fun q => Nat.blt q.1 (σ.nx + 4096)) with
       | true => some ⟨unch (enAll us [(d, some ⟨[], y⟩)]) ++ σ.env, reAll us re ++ σ.rs, σ.nx + 4096 * (ops.toList.drop 1).length + 4096⟩
       | false => none
     | none => none
   | _ => none
 | _ => none
def tlI : List It → List It
 | _ :: r => r
 | [] => []
def nx1 (P : Program) (T : List (Con P)) (n : Nat) (B : Code) (σ : St2) (st : List It) (x : Option NX) : Option St2 := match x with
 | some I => nextR P T n B σ (.tup [(false, [.b (.lit false)])]) [] I.d st
 | none => none
def nx2 (P : Program) (T : List (Con P)) (n : Nat) (B : Code) (σ : St2) (st : List It) (I : NX) (kx : KEl I.k) (v : El I.ty) (cnt' : Nat) : Option St2 :=
 nextR P T n B σ (.tup [(false, [.b (.lit true)]), (false, [keySy I.k kx]), (isPair I.ty, (celSc true σ.nx (cels I.ty v)).1)]) ((I.j, some (.iter I.k I.ty I.m (fun z => I.lf z && !decide (z = kx)) cnt' (some (kx, v)))) :: (celSc true σ.nx (cels I.ty v)).2) I.d st
def stG (x : Option St2) : St2 := match x with
 | some y => y
 | none => ⟨[], [], 0⟩
section
variable {P : Program} {o : OrgG} {n : Nat} {σ σ' : St2} {a : Act} {w : World} {T : List (Con P)} {B : Code} {Q : Post} {st : List It}
theorem rest_ok {p : List Nat} (r : List It) {id : Nat} {ops : Array Oper} {y : Sy} {re : List (Nat × Option R2)} {d : Nat} {A : Asg} {S : Stab} {a : Act} {w : World} {op0 : Oper} {l : List Oper} (hcode : sub B p = .region id ops false) (hops : ops.toList = op0 :: l)
   (h0 : ∀ t e, stE σ t = some e → e.ch = []) (np : ∀ j, ¬ o.pF j) (hr : nextR P T n B σ y re d (.run p :: r) = some σ')
   (H : OkF o n A S (FU (· < σ.nx) re) (updE (stE σ) d (some ⟨[], y⟩)) (setM (stR σ) re) a w) (k : ∀ a w, Okx o n σ' a w → Q .normal a w) : wpList P ops Q l a w := by
 unfold nextR at hr
 simp only [hcode, hops, List.drop_one, List.tail_cons] at hr
 split at hr
 · rename_i us hus
   split at hr
   · rename_i hall
     cases hr
     rw [Bool.and_eq_true] at hall
     have hemp : ∀ u ∈ us, u.cs = [] ∧ u.hs = [] := fun u hu => by
       have := List.all_eq_true.1 hall.1 u hu
       rw [Bool.and_eq_true] at this
       exact ⟨List.isEmpty_iff.1 this.1, List.isEmpty_iff.1 this.2⟩
     have hre : ∀ q ∈ re, q.1 < σ.nx + 4096 := fun q hq => by
       have := List.all_eq_true.1 hall.2 q hq
       simpa using Nat.blt_eq ▸ this
     have fin : ∀ {A' : Asg} {S' : Stab} {F' : Nat → Prop} {a' : Act} {w' : World}, OkF o n A' S' F' (setE (stE σ) (enAll us [(d, some ⟨[], y⟩)])) (setM (stR σ) (reAll us re)) a' w' → (∀ j, σ.nx + 4096 + 4096 * l.length ≤ j → True → ¬ F' j) → Okx o n ⟨unch (enAll us [(d, some ⟨[], y⟩)]) ++ σ.env, reAll us re ++ σ.rs, σ.nx + 4096 * l.length + 4096⟩ a' w' := by
       intro A' S' F' a' w' H' hF'
       refine ⟨⟨A', S', ?_⟩, ?_, np⟩
       · rw [stE_app, stR_app]
         exact (H'.less fun t e he => (unch_ok h0 he).1).agree (Agr.refl _ _) fun j hj => Classical.byContradiction fun q => hF' j (by have q : ¬ j < σ.nx + 4096 * l.length + 4096 := q; omega) tv hj
       rw [stE_app]
       exact fun t e he => (unch_ok h0 he).2
     have key := seqU_ok (Q := Q) (L := fun _ => True) (rest := []) h0 hus H (fun j hj _ hn => by
         rcases hn with hn | ⟨x, hx⟩
         · omega
         have := hre _ hx; simp only at this; omega) (fun _ _ => trivial) (fun u hu p hp => by rw [(hemp u hu).1] at hp; cases hp) (fun u hu p hp => by rw [(hemp u hu).2] at hp; cases hp) fun A' S' F' a' w' H' hF' _ => k a' w' (fin H' hF')
     rwa [List.append_nil] at key
   cases hr
 cases hr
theorem go_next (I : NX) (h : Okx o n σ a w) (k1 : (∀ x, I.lf x = false) → ∀ a w, Okx o n (stG (nx1 P T n B σ st (some I))) a w → At P T B Q (tlI st) a w)
   (k2 : ∀ (x : KEl I.k) (v : El I.ty) (cnt' : Nat), I.lf x = true → kwf I.k x → lookK (show List (KEl I.k × El I.ty) from I.m) x = some v → cnt' < I.cnt → ∀ a w, Okx o n (stG (nx2 P T n B σ st I x v cnt')) a w → At P T B Q (tlI st) a w)
   (hI : nextI P n B σ st = some I := by kernel_rfl) (h1 : (nx1 P T n B σ st (some I)).isSome = true := by kernel_rfl) (h2 : ∀ x v cnt', (nx2 P T n B σ st I x v cnt').isSome = true := by intro x v cnt'; kernel_rfl) : At P T B Q st a w := by
 obtain ⟨⟨A, S, H⟩, h0, np⟩ := h
 have hI0 := hI
 unfold nextI at hI
 split at hI
 · rename_i p r
   split at hI
   · rename_i id ops hcode
     split at hI
     · rename_i op l hops
       split at hI
       · rename_i t d hop hdst hg
         split at hI
         · rename_i j he
           split at hI
           · rename_i kc ty m lf cnt cur hR
             split at hI
             · rename_i hguard
               cases hI
               rw [Bool.and_eq_true] at hguard
               obtain ⟨g1, g2⟩ := hguard
               have g1 : d < n := by simpa using Nat.blt_eq ▸ g1
               obtain ⟨kt, hkt⟩ := Option.isSome_iff_exists.1 g2
               have hu := ktOf_ok hkt
               obtain ⟨σ1, hσ1⟩ := Option.isSome_iff_exists.1 h1
               rw [hσ1] at k1
               refine ⟨?_⟩
               show (sub B p).wp P (post P B Q r) a w
               rw [hcode]
               refine wp_region_list ?_
               rw [hops]
               simp only [wpList]
               have hw : Region.wanted op (yielded ops a.tmps) = true := by unfold Region.wanted; rw [hg]
               rw [if_pos hw]
               have hv := (H.env t _ he).1 (fun l hl => by cases hl)
               have hx : a.eval (.tmp t) = .pointer (some ⟨A.b j, 0, none⟩) := by
                 simp only [Act.eval, Array.getD_eq_getD_getElem?]
                 rw [show a.tmps[t]? = some (.pointer (some ⟨A.b j, 0, none⟩)) from hv]; rfl
               have hm : memF A (stR σ) j = some (iterRs (A.b j) m lf cnt cur) := by show (stR σ j).map _ = _; rw [hR]; rfl
               have hch : ∀ t e, stE σ t = some e → ∀ l ∈ e.ch, l.1 ≠ d := fun t e he l hl => by rw [h0 t e he] at hl; cases hl
               -- over
               have over : (∀ x, lf x = false) → (Instr.next (.pointer (some ⟨A.b j, 0, none⟩)) false op.type).run P w = .ok (.tuple #[.bool false]) w → op.wp P a w (wpList P ops (post P B Q r) l) (post P B Q r) := by
                 intro hlf hrun
                 have e2 : (execOp a.eval op).run P w = .ok (.value (.tuple #[.bool false])) w := by
                   simp only [execOp, hop, Sem.run_bind, hx, hrun]; rfl
                 refine wp_value e2 ?_
                 rw [hdst]
                 have H1 := H.put (C := []) (d := d) (y := .tup [(false, [.b (.lit false)])]) (u := .tuple #[.bool false]) g1 hch (fun l hl => by cases hl) (fun _ => ⟨fun q hq c hc => by have := List.mem_singleton.1 hq; subst this; have := List.mem_singleton.1 hc; subst this; trivial, fun q hq c hc => by have := List.mem_singleton.1 hq; subst this; have := List.mem_singleton.1 hc; subst this; trivial⟩) ⟨fun _ => rfl, fun q => (q fun l hl => by cases hl).elim⟩
                 exact rest_ok r hcode hops h0 np (re := []) hσ1 (H1.agree (Agr.refl _ _) fun c hc => .inl hc) fun a w h => (k1 hlf a w h).get
               rcases H.frm.ok j _ hm with ⟨mb, zs, cu, s1, s3, s4, s5, s6, s7⟩ | ⟨s1, s2, s3, since, seen, c0, s4⟩
               · rcases s3.next hu op.type with ⟨hlf, hrun⟩ | ⟨x, v, w', cnt', n1, n2, n3, n4, n5, n6, n7, n8⟩
                 · exact .inl (over hlf hrun)
                 -- an entry
                 have hlk : ∃ z, lookK zs x = some z ∧ z.1 = v := by
                   have e1 : lookK (zs.map fun q => (q.1, q.2.1)) x = (lookK zs x).map (·.1) := map_lookK (fun y : Value × El ty => y.1) zs x
                   rw [e1] at n3
                   obtain ⟨z, hz, rfl⟩ := Option.map_eq_some_iff.1 n3
                   exact ⟨z, hz, rfl⟩
                 obtain ⟨z, hz, rfl⟩ := hlk
                 have hlm : lookK (show List (KEl kc × El ty) from m) x = some z.2 := by
                   have e2 : lookK (show List (KEl kc × El ty) from m) x = (lookK zs x).map (·.2) := by rw [s4]; exact map_lookK (fun y : Value × El ty => y.2) zs x
                   rw [e2, hz]; rfl
                 obtain ⟨σ2, hσ2⟩ := Option.isSome_iff_exists.1 (h2 x z.2 cnt')
                 have k2' := k2 x z.2 cnt' n1 n2 hlm n4
                 rw [hσ2] at k2'
                 refine .inl ?_
                 have hrun := n5
                 have e2 : (execOp a.eval op).run P w = .ok (.value (.tuple #[.bool true, kval kc x, z.1])) w' := by
                   simp only [execOp, hop, Sem.run_bind, hx, hrun]; rfl
                 refine wp_value e2 ?_
                 rw [hdst]
                 have hj := (H.rall j _ hR).1
                 have hkS : Keeps S w w' := fun c hc => n7.block c (H.frm.inb c hc) fun q => by cases q; exact (H.frm.own j _ _ hm rfl).2.2 hc
                 have hbn : (A.b j) < w.heap.size := (H.frm.own j _ _ hm rfl).2.1
                 -- the iterator is at its next entry
                 have H1 := H.swap (Agr.refl _ _) (w' := w') (S' := S) (re := [(j, some (.iter kc ty m (fun z => lf z && !decide (z = x)) cnt' (some (x, z.2))))]) (fun c => c = j) (fun c hc => by rw [show c = j from hc]; exact ⟨_, List.mem_singleton.2 rfl⟩)
                   ((Chg.of n7).mono fun c hc => ⟨j, _, rfl, hR, by cases hc; rfl⟩) (fun _ q => q) (fun _ q => .inl q) (fun c y hy => by
                     cases List.mem_singleton.1 hy
                     refine ⟨tv, tv, rfl, .inl ⟨mb, zs, some (x, z), s1, n6, s4, fun z hz => (s5 z hz).keep hkS, rfl, fun q hq => ?_⟩, fun c hc => ?_⟩
                     · cases hq
                       exact (s5 _ (lookK_mem hz)).keep hkS
                     have hc : c = A.b j := hc
                     subst hc
                     exact ⟨.inl ⟨j, _, rfl, hR, rfl⟩, by rw [n8]; exact hbn⟩) (fun c c' y y' bb q1 q2 _ _ => by cases List.mem_singleton.1 q1; cases List.mem_singleton.1 q2; rfl)
                 have hrd : Rd S w' z.1 z.2 := (s5 _ (lookK_mem hz)).keep hkS
                 obtain ⟨vs, hvs, hv⟩ := rd_cells hrd
                 have hkeys := celSc_keys (k := true) (cels ty z.2) σ.nx
                 have hF : ∀ i, σ.nx ≤ i → ¬ FU (· < σ.nx) [(j, some (R2.iter kc ty m (fun z => lf z && !decide (z = x)) cnt' (some (x, z.2))))] i := fun i hi hn => by
                   rcases hn with hn | ⟨q, hq⟩
                   · omega
                   cases List.mem_singleton.1 hq; omega
                 obtain ⟨A', c1, c2, c3, c4⟩ := celSc_ok (o := o) (S := S) (w := w') (k := true) (B := σ.nx + (celSc true σ.nx (cels ty z.2)).2.length) _ vs σ.nx A _ hvs (fun i hi _ => hF i hi) fun q hq => (hkeys q hq).2
                 have H2 := H1.ro c1 c3
                 have hfu : ∀ i, FU (FU (· < σ.nx) [(j, some (R2.iter kc ty m (fun z => lf z && !decide (z = x)) cnt' (some (x, z.2))))]) (celSc true σ.nx (cels ty z.2)).2 i → FU (· < σ.nx) ((j, some (R2.iter kc ty m (fun z => lf z && !decide (z = x)) cnt' (some (x, z.2)))) :: (celSc true σ.nx (cels ty z.2)).2) i := fun i hi => by
                   rcases hi with (hi | ⟨q, hq⟩) | ⟨q, hq⟩
                   · exact .inl hi
                   · exact .inr ⟨q, by rw [List.mem_singleton.1 hq]; exact List.mem_cons_self⟩
                   exact .inr ⟨q, List.mem_cons_of_mem _ hq⟩
                 have hsame : setM (setM (stR σ) [(j, some (R2.iter kc ty m (fun z => lf z && !decide (z = x)) cnt' (some (x, z.2))))]) (celSc true σ.nx (cels ty z.2)).2 = setM (stR σ) ((j, some (R2.iter kc ty m (fun z => lf z && !decide (z = x)) cnt' (some (x, z.2)))) :: (celSc true σ.nx (cels ty z.2)).2) := by
                   funext i
                   show setM (updR (stR σ) j _) _ i = updR (setM (stR σ) _) j _ i
                   by_cases q : j = i
                   · subst q
                     rw [updR_same, setM_out, updR_same]
                     rintro ⟨y, hy⟩
                     have := (hkeys _ hy).1
                     omega
                   rw [updR_ne q]
                   by_cases q2 : ∃ y, (i, y) ∈ (celSc true σ.nx (cels ty z.2)).2
                   · exact setM_in q2 _ _
                   rw [setM_out q2, setM_out q2, updR_ne q]
                 rw [hsame] at H2
                 have H3 := H2.agree (Agr.refl _ _) hfu
                 have H4 := H3.put (C := []) (d := d) (y := .tup [(false, [.b (.lit true)]), (false, [keySy kc x]), (isPair ty, (celSc true σ.nx (cels ty z.2)).1)]) (u := .tuple #[.bool true, kval kc x, z.1]) g1 hch (fun l hl => by cases hl) (fun _ => by
                   refine ⟨fun q hq c hc => ?_, fun q hq c hc => ?_⟩
                   · rcases List.mem_cons.1 hq with rfl | hq
                     · have := List.mem_singleton.1 hc; subst this; trivial
                     rcases List.mem_cons.1 hq with rfl | hq
                     · have := List.mem_singleton.1 hc; subst this; exact (keySy_all (A := A) x).1
                     have := List.mem_singleton.1 hq; subst this
                     exact Sc.mono hfu (c4 c hc).1
                   rcases List.mem_cons.1 hq with rfl | hq
                   · have := List.mem_singleton.1 hc; subst this; trivial
                   · rcases List.mem_cons.1 hq with rfl | hq
                     · have := List.mem_singleton.1 hc; subst this; exact (keySy_all (F := fun _ => True) x).2
                     have := List.mem_singleton.1 hq; subst this
                     exact (c4 c hc).2) ⟨fun _ => by
                   show Value.tuple #[_, _, _] = Value.tuple #[partDen A' (false, [.b (.lit true)]), partDen A' (false, [keySy kc x]), partDen A' (isPair ty, (celSc true σ.nx (cels ty z.2)).1)]
                   unfold partDen
                   simp only [List.map_cons, List.map_nil, keySy_den, c2, Bool.false_eq_true, if_false, List.headD_cons]
                   rw [hv]; rfl, fun q => (q fun l hl => by cases hl).elim⟩
                 exact rest_ok r hcode hops h0 np hσ2 H4 fun a w h => (k2' a w h).get
               refine .inl (over s3 (next_nil s4 op.type))
             cases hI
           cases hI
         cases hI
       cases hI
     cases hI
   cases hI
 cases hI
end
def leav1 (E : List (Int × Int)) (m : List (Int × List Int)) (e : Int) : List (Int × List Int) :=
 ptI (ptI m (E.getD e.toNat (0, 0)).1 ((lkI m (E.getD e.toNat (0, 0)).1).getD [] ++ [2 * e])) (E.getD e.toNat (0, 0)).2
   ((lkI (ptI m (E.getD e.toNat (0, 0)).1 ((lkI m (E.getD e.toNat (0, 0)).1).getD [] ++ [2 * e])) (E.getD e.toNat (0, 0)).2).getD [] ++ [2 * e + 1])
def leavF (E : List (Int × Int)) (L : List Int) : List (Int × List Int) := L.foldl (leav1 E) []
theorem leavF_snoc {E : List (Int × Int)} {L : List Int} {i : Int} (h0 : 0 ≤ i) (h : i < (L.length : Int)) : leavF E (L.take (i + 1).toNat) = leav1 E (leavF E (L.take i.toNat)) (L.getD i.toNat 0) := by
 unfold leavF
 rw [show (i + 1).toNat = i.toNat + 1 by omega, List.take_succ_eq_append_getElem (by omega), List.foldl_append, List.getD_eq_getElem?_getD, List.getElem?_eq_getElem (show i.toNat < L.length by omega)]
 rfl
theorem leav1_look {E : List (Int × Int)} {m : List (Int × List Int)} {e v : Int} : (lkI (leav1 E m e) v).getD [] = (lkI m v).getD [] ++ dartsFrom E e v 0 := by
 unfold leav1 dartsFrom
 rw [lkI_pt, lkI_pt, lkI_pt, tailE_0, tailE_1]
 generalize (E.getD e.toNat (0, 0)).1 = A
 generalize (E.getD e.toNat (0, 0)).2 = B
 by_cases h1 : A = v <;> by_cases h2 : B = v
 · simp [h1, h2]
 · simp [h1, h2]
 · have : ¬ A = B := fun q => h1 (q.trans h2)
   simp [h1, h2, this]
 simp [h1, h2]
theorem leavF_look (E : List (Int × Int)) (v : Int) : ∀ (L M : List Int), (∀ x, (lkI (M.foldl (leav1 E) []) x).getD [] = dartsL E M x) → (lkI ((L.foldl (leav1 E) (M.foldl (leav1 E) []))) v).getD [] = dartsL E (M ++ L) v
 | [], M, h => by rw [List.append_nil]; exact h v
 | e :: L, M, h => by
   have := leavF_look E v L (M ++ [e]) fun x => by
     rw [List.foldl_append, List.foldl_cons, List.foldl_nil, leav1_look, h x, dartsL_app]
     simp [dartsL]
   rw [List.foldl_append, List.foldl_cons, List.foldl_nil] at this
   rw [List.foldl_cons, this, List.append_assoc]; rfl
theorem leav_look {E : List (Int × Int)} {L : List Int} {v : Int} : (lkI (leavF E L) v).getD [] = dartsL E L v := by
 have := leavF_look E v L [] fun x => rfl
 exact this
theorem dartsFrom_len (E : List (Int × Int)) (e v s : Int) : (dartsFrom E e v s).length ≤ 2 := by
 unfold dartsFrom; split <;> split <;> simp
theorem dartsL_len (E : List (Int × Int)) (v : Int) : ∀ L : List Int, (dartsL E L v).length ≤ 2 * L.length
 | [] => by simp [dartsL]
 | e :: L => by
   have h1 := dartsFrom_len E e v 0
   have h2 := dartsL_len E v L
   show (dartsFrom E e v 0 ++ dartsL E L v).length ≤ _
   rw [List.length_append, List.length_cons]; omega
theorem leavF_len (E : List (Int × Int)) : ∀ (L : List Int) (m : List (Int × List Int)), (L.foldl (leav1 E) m).length ≤ m.length + 2 * L.length
 | [], m => by simp
 | e :: L, m => by
   have h1 := leavF_len E L (leav1 E m e)
   have h2 : (leav1 E m e).length ≤ m.length + 2 := Nat.le_trans (ptI_len _ _ _) (Nat.succ_le_succ (ptI_len _ _ _))
   rw [List.foldl_cons, List.length_cons]; omega
theorem ends_in {n : Int} {E : List (Int × Int)} (hr : rightE n E = 0) {e : Int} (h0 : 0 ≤ e) (h1 : e < (E.length : Int)) : 0 ≤ (E.getD e.toNat (0, 0)).1 ∧ (E.getD e.toNat (0, 0)).1 < n ∧ 0 ≤ (E.getD e.toNat (0, 0)).2 ∧ (E.getD e.toNat (0, 0)).2 < n := by
 obtain ⟨_, _, _, h⟩ := rightE_0 hr
 obtain ⟨a, b, c, d⟩ := h e.toNat (by omega)
 exact ⟨a, b, c, d⟩
theorem leav_facts {n : Int} {E : List (Int × Int)} {V L : List Int} (hp : partE n E V L = 0) {i : Int} {m : List (Int × List Int)} (hm : m = leavF E (L.take i.toNat)) (h0 : 0 ≤ i) (h1 : i < (L.length : Int)) :
   (0 ≤ L.getD i.toNat 0 ∧ L.getD i.toNat 0 < (E.length : Int) ∧ (E.length : Int) ≤ 1024) ∧
   (0 ≤ (E.getD (L.getD i.toNat 0).toNat (0, 0)).1 ∧ (E.getD (L.getD i.toNat 0).toNat (0, 0)).1 < 1024 ∧ 0 ≤ (E.getD (L.getD i.toNat 0).toNat (0, 0)).2 ∧ (E.getD (L.getD i.toNat 0).toNat (0, 0)).2 < 1024) ∧
   ((lkI m (E.getD (L.getD i.toNat 0).toNat (0, 0)).1).getD []).length ≤ 4096 ∧
   m.length ≤ 4096 ∧
   ((lkI (ptI m (E.getD (L.getD i.toNat 0).toNat (0, 0)).1 ((lkI m (E.getD (L.getD i.toNat 0).toNat (0, 0)).1).getD [] ++ [2 * L.getD i.toNat 0])) (E.getD (L.getD i.toNat 0).toNat (0, 0)).2).getD []).length ≤ 4096 ∧
   (ptI m (E.getD (L.getD i.toNat 0).toNat (0, 0)).1 ((lkI m (E.getD (L.getD i.toNat 0).toNat (0, 0)).1).getD [] ++ [2 * L.getD i.toNat 0])).length ≤ 4096 := by
 subst hm
 obtain ⟨hr, hV, hL, _⟩ := partE_0 hp
 obtain ⟨r1, r2, r3, r4⟩ := rightE_0 hr
 have hlen := rises_len hL (by omega)
 obtain ⟨k1, k2, _⟩ := hL i.toNat (by omega)
 obtain ⟨e1, e2, e3, e4⟩ := ends_in hr k1 k2
 have htl : (L.take i.toNat).length ≤ 1024 := by rw [List.length_take]; omega
 have hd : ∀ v, ((lkI (leavF E (L.take i.toNat)) v).getD []).length ≤ 2048 := fun v => by
   rw [leav_look]
   exact Nat.le_trans (dartsL_len E v _) (by omega)
 have hl := leavF_len E (L.take i.toNat) []
 have hl : (leavF E (L.take i.toNat)).length ≤ 2048 := by
   unfold leavF
   simp only [List.length_nil] at hl; omega
 refine ⟨⟨k1, k2, by omega⟩, ⟨e1, by omega, e3, by omega⟩, Nat.le_trans (hd _) (by omega), by omega, ?_, Nat.le_trans (ptI_len _ _ _) (by omega)⟩
 rw [lkI_pt]
 split
 · have := hd (E.getD (L.getD i.toNat 0).toNat (0, 0)).1
   simp only [Option.getD_some, List.length_append, List.length_singleton]; omega
 exact Nat.le_trans (hd _) (by omega)
def rdart (E : List (Int × Int)) (v shut : Int) (s : List (Int × Int) × List Int) (d : Int) : List (Int × Int) × List Int :=
 if (lkI s.1 (headE E d)).isSome = true ∨ headE E d = shut then s else (ptI s.1 (headE E d) ((lkI s.1 v).getD 0 + 1), s.2 ++ [headE E d])
def rdarts (E : List (Int × Int)) (M : List (Int × List Int)) (v shut : Int) (s : List (Int × Int) × List Int) : List (Int × Int) × List Int := ((lkI M v).getD []).foldl (rdart E v shut) s
def runR (E : List (Int × Int)) (M : List (Int × List Int)) (shut : Int) : Nat → Int → List (Int × Int) × List Int → List (Int × Int)
 | 0, _, s => s.1
 | f + 1, v, s => match (rdarts E M v shut s).2 with
   | [] => (rdarts E M v shut s).1
   | x :: q => runR E M shut f x ((rdarts E M v shut s).1, q)
def reachF (E : List (Int × Int)) (M : List (Int × List Int)) (a shut : Int) : List (Int × Int) := runR E M shut (2 * E.length + 2) a ([(a, 0)], [])
theorem ptI_new_len {α : Type} {l : List (Int × α)} {x : Int} {v : α} (h : lkI l x = none) : (ptI l x v).length = l.length + 1 := by
 rw [(ptI_perm h).length_eq]; rfl
structure Srch (U : List Int) (s : List (Int × Int) × List Int) : Prop where
 nd : (s.1.map (·.1)).Nodup
 sub : ∀ p ∈ s.1, p.1 ∈ U
theorem Srch.len {U : List Int} {s : List (Int × Int) × List Int} (h : Srch U s) : s.1.length ≤ U.length := by
 have := List.Nodup.length_le_of_subset h.nd (l₂ := U) (fun x hx => by obtain ⟨p, hp, rfl⟩ := List.mem_map.1 hx; exact h.sub p hp)
 rwa [List.length_map] at this
theorem rdart_srch {U : List Int} {E : List (Int × Int)} {v shut d : Int} {s : List (Int × Int) × List Int} (h : Srch U s) (hd : headE E d ∈ U) : Srch U (rdart E v shut s d) ∧ (rdart E v shut s d).1.length + s.2.length = s.1.length + (rdart E v shut s d).2.length := by
 unfold rdart
 split
 · exact ⟨h, rfl⟩
 rename_i q
 have hn : lkI s.1 (headE E d) = none := by
   cases hl : lkI s.1 (headE E d) with
   | none => rfl
   | some z => exact (q (.inl (by rw [hl]; rfl))).elim
 refine ⟨⟨?_, fun p hp => ?_⟩, ?_⟩
 · have := (ptI_perm (v := (lkI s.1 v).getD 0 + 1) hn).map (·.1)
   refine this.nodup_iff.2 (List.nodup_cons.2 ⟨fun hm => ?_, h.nd⟩)
   obtain ⟨p, hp, e⟩ := List.mem_map.1 hm
   exact lkI_none.1 hn p.2 (by rw [show (headE E d, p.2) = p from Prod.ext e.symm rfl]; exact hp)
 · rcases mem_ptI.1 hp with rfl | ⟨hp, _⟩
   · exact hd
   exact h.sub p hp
 show (ptI s.1 _ _).length + s.2.length = s.1.length + (s.2 ++ [headE E d]).length
 rw [ptI_new_len hn, List.length_append]; simp; omega
theorem and_yes {a b : Bool} (h : a = true ∧ b = true) : (a && b) = true := by rw [h.1, h.2]; rfl
theorem and_no {a b : Bool} (h : a = false ∨ b = false) : (a && b) = false := by rcases h with h | h <;> rw [h] <;> simp
theorem nor_ {a : Bool} {p : Prop} (h : a = false ∧ ¬ p) : ¬ (a = true ∨ p) := fun q => q.elim (fun z => by rw [h.1] at z; cases z) h.2
theorem cons_of {l : List Int} (h : ¬ l = []) : l = l.getD 0 0 :: l.drop 1 := by
 cases l with
 | nil => exact (h rfl).elim
 | cons x l => rfl
theorem headE_in {n : Int} {E : List (Int × Int)} (hr : rightE n E = 0) {d : Int} (h0 : 0 ≤ d) (h1 : d / 2 < (E.length : Int)) : 0 ≤ headE E d ∧ headE E d < 1024 ∧ headE E d ∈ E.flatMap fun e => [e.1, e.2] := by
 have hn := (rightE_0 hr).2.1
 obtain ⟨a, b, c, e⟩ := ends_in hr (e := d / 2) (by omega) h1
 have hm : E.getD (d / 2).toNat (0, 0) ∈ E := by
   rw [List.getD_eq_getElem?_getD, List.getElem?_eq_getElem (show (d / 2).toNat < E.length by omega)]
   exact List.getElem_mem _
 unfold headE eA eB
 split
 · exact ⟨c, by omega, List.mem_flatMap.2 ⟨_, hm, by simp⟩⟩
 exact ⟨a, by omega, List.mem_flatMap.2 ⟨_, hm, by simp⟩⟩
def DOk (E : List (Int × Int)) (M : List (Int × List Int)) : Prop := ∀ v, ∀ d ∈ (lkI M v).getD [], 0 ≤ d ∧ d / 2 < (E.length : Int)
def univ (E : List (Int × Int)) (a : Int) : List Int := a :: E.flatMap fun e => [e.1, e.2]
theorem univ_len (E : List (Int × Int)) (a : Int) : (univ E a).length = 2 * E.length + 1 := by
 have : ∀ E : List (Int × Int), (E.flatMap fun e => [e.1, e.2]).length = 2 * E.length := fun E => by
   induction E with
   | nil => rfl
   | cons e E ih => rw [List.flatMap_cons, List.length_append, ih]; simp; omega
 show (E.flatMap fun e => [e.1, e.2]).length + 1 = _
 rw [this]
theorem univ_bd {n : Int} {E : List (Int × Int)} (hr : rightE n E = 0) {a : Int} (h0 : 0 ≤ a) (h1 : a < 1024) : ∀ x ∈ univ E a, 0 ≤ x ∧ x < 1024 := fun x hx => by
 have hn := (rightE_0 hr).2.1
 rcases List.mem_cons.1 hx with rfl | hx
 · exact ⟨h0, h1⟩
 obtain ⟨e, he, hx⟩ := List.mem_flatMap.1 hx
 obtain ⟨j, hj, rfl⟩ := List.getElem_of_mem he
 have := (rightE_0 hr).2.2.2 j hj
 rw [List.getD_eq_getElem?_getD, List.getElem?_eq_getElem hj] at this
 obtain ⟨p, q, r, t⟩ := this
 simp only [Option.getD_some] at p q r t
 rcases List.mem_cons.1 hx with rfl | hx
 · exact ⟨p, by omega⟩
 rw [List.mem_singleton.1 hx]; exact ⟨r, by omega⟩
structure Mid (E : List (Int × Int)) (a : Int) (v : Int) (k : Nat) (m : List (Int × Int)) (q : List Int) : Prop where
 s : Srch (univ E a) (m, q)
 vU : v ∈ univ E a
 qU : ∀ x ∈ q, x ∈ univ E a
 n : m.length = k + 1 + q.length
 b : ∀ p ∈ m, 0 ≤ p.2 ∧ p.2 ≤ (k : Int) + 1
 vM : (lkI m v).isSome = true
 qM : ∀ x ∈ q, (lkI m x).isSome = true
 c : 0 ≤ (lkI m v).getD 0 ∧ (lkI m v).getD 0 ≤ (k : Int)
structure RInv (E : List (Int × Int)) (M : List (Int × List Int)) (a shut v : Int) (ok : Bool) (q : List Int) (m : List (Int × Int)) (k : Nat) : Prop where
 go : ok = true → Mid E a v k m q ∧ (∀ p ∈ m, p.2 ≤ (k : Int)) ∧ reachF E M a shut = runR E M shut (2 * E.length + 2 - k) v (m, q)
 done : ok = false → m = reachF E M a shut
 kB : k ≤ 2 * E.length + 1
theorem lkI_getD_mem {m : List (Int × Int)} {P : Int → Prop} (h0 : P 0) (h : ∀ p ∈ m, P p.2) (v : Int) : P ((lkI m v).getD 0) := by
 cases hl : lkI m v with
 | none => exact h0
 | some z => exact h _ (lkI_mem hl)
theorem lkI_one {α : Type} (a : Int) (y : α) : lkI [(a, y)] a = some y := by
 cases h : lkI [(a, y)] a with
 | none => exact (lkI_none.1 h y List.mem_cons_self).elim
 | some z => have := List.mem_singleton.1 (lkI_mem h); cases this; rfl
theorem RInv.init (E : List (Int × Int)) (M : List (Int × List Int)) (a shut : Int) : RInv E M a shut a true [] [(a, 0)] 0 := by
 refine ⟨fun _ => ⟨⟨⟨by simp, fun p hp => ?_⟩, List.mem_cons_self, fun x hx => (by cases hx), rfl, fun p hp => ?_, by rw [lkI_one]; rfl, fun x hx => (by cases hx), lkI_getD_mem (P := fun y => 0 ≤ y ∧ y ≤ ((0 : Nat) : Int)) ⟨by omega, by omega⟩ (fun p hp => by rw [List.mem_singleton.1 hp]; exact ⟨by simp, by simp⟩) a⟩, fun p hp => ?_, rfl⟩, (fun q => by cases q), by omega⟩
 · rw [List.mem_singleton.1 hp]; exact List.mem_cons_self
 · rw [List.mem_singleton.1 hp]; exact ⟨by simp, by simp⟩
 rw [List.mem_singleton.1 hp]; simp
theorem Mid.bd {E : List (Int × Int)} {a v : Int} {k : Nat} {m : List (Int × Int)} {q : List Int} (h : Mid E a v k m q) : m.length ≤ 2 * E.length + 1 ∧ k ≤ 2 * E.length := by
 have h1 := h.s.len
 rw [univ_len] at h1
 have h2 := h.n
 simp only at h1
 exact ⟨h1, by omega⟩
theorem Mid.dart {E : List (Int × Int)} {a v shut d : Int} {k : Nat} {m : List (Int × Int)} {q : List Int} (h : Mid E a v k m q) (hd : headE E d ∈ univ E a) (hn : ¬ ((lkI m (headE E d)).isSome = true ∨ headE E d = shut)) :
   Mid E a v k (ptI m (headE E d) ((lkI m v).getD 0 + 1)) (q ++ [headE E d]) := by
 have hv := h.vM
 have e : rdart E v shut (m, q) d = (ptI m (headE E d) ((lkI m v).getD 0 + 1), q ++ [headE E d]) := by unfold rdart; rw [if_neg hn]
 obtain ⟨k1, k2⟩ := rdart_srch (v := v) (shut := shut) h.s hd
 rw [e] at k1 k2
 have hne : ¬ headE E d = v := fun z => hn (.inl (by rw [z]; exact hv))
 refine ⟨k1, h.vU, fun x hx => ?_, ?_, fun p hp => ?_, ?_, fun x hx => ?_, ?_⟩
 · rcases List.mem_append.1 hx with hx | hx
   · exact h.qU x hx
   rw [List.mem_singleton.1 hx]; exact hd
 · have := h.n
   simp only at k2
   omega
 · have hc := h.c
   rcases mem_ptI.1 hp with rfl | ⟨hp, _⟩
   · exact ⟨by show 0 ≤ (lkI m v).getD 0 + 1; omega, by show (lkI m v).getD 0 + 1 ≤ (k : Int) + 1; omega⟩
   exact h.b p hp
 · rw [lkI_pt, if_neg hne]; exact hv
 · rw [lkI_pt]
   split
   · rfl
   rename_i z
   rcases List.mem_append.1 hx with hx | hx
   · exact h.qM x hx
   rw [List.mem_singleton.1 hx] at z; exact (z rfl).elim
 rw [lkI_pt, if_neg hne]; exact h.c
theorem foldl_snoc {α : Type} (f : α → Int → α) {l : List Int} {i : Int} (s : α) (h0 : 0 ≤ i) (h : i < (l.length : Int)) : (l.take (i + 1).toNat).foldl f s = f ((l.take i.toNat).foldl f s) (l.getD i.toNat 0) := by
 rw [show (i + 1).toNat = i.toNat + 1 by omega, List.take_succ_eq_append_getElem (by omega), List.foldl_append, List.getD_eq_getElem?_getD, List.getElem?_eq_getElem (show i.toNat < l.length by omega)]
 rfl
theorem RInv.step {E : List (Int × Int)} {M : List (Int × List Int)} {a shut v : Int} {ok : Bool} {q q' q2 : List Int} {m m' : List (Int × Int)} {k : Nat} (h : RInv E M a shut v ok q m k) (hok : ok = true) (he : rdarts E M v shut (m, q) = (m', q')) (hm : Mid E a v k m' q') :
   (q' = [] → RInv E M a shut 0 false q2 m' (k + 1)) ∧ (∀ x t, q' = x :: t → RInv E M a shut x true t m' (k + 1)) := by
 obtain ⟨h1, h2, h3⟩ := h.go hok
 obtain ⟨b1, b2⟩ := hm.bd
 have hf : 2 * E.length + 2 - k = (2 * E.length + 2 - (k + 1)) + 1 := by omega
 have hrun : reachF E M a shut = (match (m', q').2 with
   | [] => (m', q').1
   | x :: t => runR E M shut (2 * E.length + 2 - (k + 1)) x ((m', q').1, t)) := by
   rw [h3, hf, ← he]; rfl
 refine ⟨fun z => ?_, fun x t z => ?_⟩
 · subst z
   exact ⟨fun w => (by cases w), fun _ => hrun.symm, by omega⟩
 subst z
 refine ⟨fun _ => ⟨⟨⟨hm.s.nd, hm.s.sub⟩, hm.qU x List.mem_cons_self, fun y hy => hm.qU y (List.mem_cons_of_mem _ hy), ?_, fun p hp => ?_, ?_, ?_, ?_⟩, fun p hp => ?_, hrun⟩, fun w => (by cases w), by omega⟩
 · have := hm.n; rw [List.length_cons] at this; omega
 · have := hm.b p hp; exact ⟨this.1, by omega⟩
 · exact hm.qM x List.mem_cons_self
 · exact fun y hy => hm.qM y (List.mem_cons_of_mem _ hy)
 · exact lkI_getD_mem (P := fun y => 0 ≤ y ∧ y ≤ ((k + 1 : Nat) : Int)) ⟨by omega, by omega⟩ (fun p hp => by have := hm.b p hp; exact ⟨this.1, by omega⟩) x
 have := hm.b p hp; omega
theorem wtarget_c : ConOk Try.prog 133 [(false, grT), (false, .int)] [.int] (fun x => 0 ≤ (show Int from x.2.1) ∧ (show Int from x.2.1) / 2 < ((show List (Int × Int) from x.1.2).length : Int) ∧ (show Int from x.2.1) ≤ 1000000) (fun x => (headE (show List (Int × Int) from x.1.2) (show Int from x.2.1), ())) := by
 refine con_of Try.f133 22 [] Try.func133 fun o x hd _ _ h => ?_
 obtain ⟨⟨n, E⟩, d, _⟩ := x
 change Int at n
 change List (Int × Int) at E
 change Int at d
 have hl0 : (E.length : Int) ≤ 9223372036854775807 := lenAt h 0 (t := edT) (l := E)
 change 0 ≤ d ∧ d / 2 < (E.length : Int) ∧ d ≤ 1000000 at hd
 obtain ⟨d0, d1, d2⟩ := hd
 refine go (pr := (0 ≤ d ∧ 0 < (2 : Int))) [] h (⟨by omega, by omega⟩) fun _ _ h => ?_
 refine go_if h (fun (q1 : d % 2 = 0) => ?_) (fun (q1 : ¬ (d % 2 = 0)) => ?_)
 · refine go (pr := (0 ≤ d ∧ 0 < (2 : Int) ∧ InR .i64 d) ∧ (Bnd (d / 2) E.length)) [] h ⟨⟨by omega, by omega, ⟨by omega, by omega⟩⟩, bx⟩ fun _ _ h => ?_
   exact out (((E.getD (d / 2).toNat (0, 0)).2 : Int), ()) h (by unfold headE; first | rw [if_pos q1]; rfl | rw [if_neg q1]; rfl)
 refine go (pr := (0 ≤ d ∧ 0 < (2 : Int) ∧ InR .i64 d) ∧ (Bnd (d / 2) E.length)) [] h ⟨⟨by omega, by omega, ⟨by omega, by omega⟩⟩, bx⟩ fun _ _ h => ?_
 exact out (((E.getD (d / 2).toNat (0, 0)).1 : Int), ()) h (by unfold headE; first | rw [if_pos q1]; rfl | rw [if_neg q1]; rfl)
def C_target : Con Try.prog := plain wtarget_c
theorem reach_c : ConOk Try.prog 108 [(false, grT), (false, (.map .int (.list .int))), (false, .int), (false, .int)] [(.map .int .int)] (fun x => rightE (show Int from x.1.1) (show List (Int × Int) from x.1.2) = 0 ∧ DOk (show List (Int × Int) from x.1.2) (show MapD .int (List Int) from x.2.1) ∧ 0 ≤ (show Int from x.2.2.1) ∧ (show Int from x.2.2.1) < 1024) (fun x => (reachF (show List (Int × Int) from x.1.2) (show MapD .int (List Int) from x.2.1) (show Int from x.2.2.1) (show Int from x.2.2.2.1), ())) := by
 refine con_of Try.f108 74 [C_target, inl [] [(6, false)] Try.func145, inl [] [] Try.func132, inl [] [] Try.func144] Try.func108 fun o x hd _ _ h => ?_
 obtain ⟨⟨n, E⟩, M, a, shut, _⟩ := x
 change Int at n
 change List (Int × Int) at E
 change MapD .int (List Int) at M
 change Int at a
 change Int at shut
 have hl0 : (E.length : Int) ≤ 9223372036854775807 := lenAt h 0 (t := edT) (l := E)
 change rightE n E = 0 ∧ DOk E M ∧ 0 ≤ a ∧ a < 1024 at hd
 obtain ⟨hr, hD, ha0, ha1⟩ := hd
 obtain ⟨hn0, hn1, hE, _⟩ := rightE_0 hr
 refine go (pr := (kwf .int a) ∧ (([] : MapD .int Int).length ≤ 2147483647) ∧ (([] : List Int).length + ([a] : List Int).length ≤ 2147483647) ∧ (¬ ((([a] : List Int).length : Int) = 0)) ∧ (Bnd (0 : Int) ([a] : List Int).length) ∧ (0 ≤ (1 : Int) ∧ (1 : Int) ≤ (([a] : List Int).length : Int))) [] h ⟨wk, ln, ln, by simp, bx, ct⟩ fun _ _ h => ?_
 refine go_loop (Int × Bool × List Int × (List (Int × Int)) × Nat) (fun x_ => (fun (v : Int) (ok : Bool) (q : List Int) (m : List (Int × Int)) (k : Nat) => ⟨[(1, em 0), (3, en shut), (4, ep 1), (9, em 2), (10, some ⟨[], .one (.clo 144 [(3, 0)])⟩), (11, some ⟨[], .one (.clo 145 [(3, 0)])⟩), (12, en v), (13, some ⟨[], .one (.b (.raw ok))⟩)], [(0, some (.mar .int (.list .int) M)), (1, some (.box 24 [.v (.int .i64 n), .own 4])), (2, some (.map .int .int m)), (3, some (.box 27 [.own 5])), (4, some (.ar edT E)), (5, some (.row 3 .int q))], 6⟩) x_.1 x_.2.1 x_.2.2.1 x_.2.2.2.1 x_.2.2.2.2) (fun x_ => (fun (v : Int) (ok : Bool) (q : List Int) (m : List (Int × Int)) (k : Nat) => RInv E M a shut v ok q m k ∧ True) x_.1 x_.2.1 x_.2.2.1 x_.2.2.2.1 x_.2.2.2.2) (fun x_ => (fun (v : Int) (ok : Bool) (q : List Int) (m : List (Int × Int)) (k : Nat) => 2 * E.length + 3 - k) x_.1 x_.2.1 x_.2.2.1 x_.2.2.2.1 x_.2.2.2.2) (a, true, [], [(a, 0)], 0) [(0, some 1), (1, some 2), (2, some 8194), (3, some 28802), (4, some 0), (5, some 70274)] h ⟨RInv.init E M a shut, tv⟩ fun x_ _ _ _ hK1 hI h => ?_
 obtain ⟨v, ok, q, m, k⟩ := x_
 obtain ⟨hR, _⟩ := hI
 dsimp only at hR
 refine go0 [] h fun _ _ h => ?_
 refine go_if h (fun (q1 : ok = true) => ?_) (fun (q1 : ok = false) => ?_)
 · have g1 := (hR.go q1).1
   obtain ⟨b1, b2⟩ := g1.bd
   obtain ⟨v1, v2⟩ := univ_bd hr ha0 ha1 v g1.vU
   refine go (pr := (kwf .int v)) [] h wk fun _ _ h => ?_
   refine go_loop (Int × (List (Int × Int)) × List Int) (fun x_ => (fun (i : Int) (ml : List (Int × Int)) (ql : List Int) => ⟨[(1, em 0), (3, en shut), (4, ep 1), (9, em 2), (10, some ⟨[], .one (.clo 144 [(3, 0)])⟩), (11, some ⟨[], .one (.clo 145 [(3, 0)])⟩), (12, en v), (42, eo 4), (43, en (((lkI M v).getD []).length : Int)), (44, en i)], [(0, some (.mar .int (.list .int) M)), (1, some (.box 24 [.v (.int .i64 n), .own 5])), (2, some (.map .int .int ml)), (3, some (.box 27 [.own 6])), (4, some (.ar .int ((lkI M v).getD []))), (5, some (.ar edT E)), (6, some (.row 3 .int ql))], 7⟩) x_.1 x_.2.1 x_.2.2) (fun x_ => (fun (i : Int) (ml : List (Int × Int)) (ql : List Int) => 0 ≤ i ∧ i ≤ (((lkI M v).getD []).length : Int) ∧ (((lkI M v).getD []).take i.toNat).foldl (rdart E v shut) (m, q) = (ml, ql) ∧ Mid E a v k ml ql) x_.1 x_.2.1 x_.2.2) (fun x_ => (fun (i : Int) (ml : List (Int × Int)) (ql : List Int) => ((((lkI M v).getD []).length : Int) - i).toNat) x_.1 x_.2.1 x_.2.2) (0, m, q) [(0, some 0), (1, some 1), (2, some 2), (3, some 3), (4, some 12294), (5, some 4), (6, some 5)] h ⟨by omega, by omega, rfl, g1⟩ fun x_ _ _ _ hK2 hI h => ?_
   obtain ⟨i, ml, ql⟩ := x_
   obtain ⟨i0, i1, hf, hM⟩ := hI
   dsimp only at i0 i1 hf hM
   have i2 : (((lkI M v).getD []).length : Int) ≤ 9223372036854775807 := lenAt h 4 (t := .int) (l := ((lkI M v).getD []))
   refine go0 [] h fun _ _ h => ?_
   refine go_if h (fun (q2 : i < (((lkI M v).getD []).length : Int)) => ?_) (fun (q2 : ¬ (i < (((lkI M v).getD []).length : Int))) => ?_)
   · have q2_ := q2
     obtain ⟨d1, d2⟩ := hD v (((lkI M v).getD []).getD i.toNat 0) (mem_getD.2 ⟨i.toNat, by omega, rfl⟩)
     obtain ⟨w1, w2, w3⟩ := headE_in hr d1 d2
     obtain ⟨b3, b4⟩ := hM.bd
     have c1 := hM.c
     have c2 := hM.n
     refine go (pr := (Bnd i ((lkI M v).getD []).length) ∧ (0 ≤ (((lkI M v).getD []).getD i.toNat 0) ∧ (((lkI M v).getD []).getD i.toNat 0) / 2 < (E.length : Int) ∧ (((lkI M v).getD []).getD i.toNat 0) ≤ 1000000) ∧ (kwf .int (headE E (((lkI M v).getD []).getD i.toNat 0)))) [] h ⟨bx, ⟨d1, d2, by omega⟩, wk⟩ fun _ _ h => ?_
     refine go_if h (fun (q3 : (((lkI ml (headE E (((lkI M v).getD []).getD i.toNat 0))).isSome) = true) ∨ (headE E (((lkI M v).getD []).getD i.toNat 0) = shut)) => ?_) (fun (q3 : (((lkI ml (headE E (((lkI M v).getD []).getD i.toNat 0))).isSome) = false) ∧ (¬ (headE E (((lkI M v).getD []).getD i.toNat 0) = shut))) => ?_)
     · refine go (pr := (InR .i64 (i + 1))) [] h r64 fun _ _ h => ?_
       exact lp_ (hK2 (i + 1, ml, ql) [(0, some 0), (1, some 1), (2, some 2), (3, some 3), (4, some 4), (5, some 5), (6, some 6)] h ⟨by omega, by omega, by rw [foldl_snoc _ _ i0 q2_, hf]; exact if_pos q3, hM⟩ (lt_))
     refine go (pr := (kwf .int v) ∧ (InR .i64 (((lkI ml v).getD 0) + 1)) ∧ (kwf .int (headE E (((lkI M v).getD []).getD i.toNat 0))) ∧ (ml.length ≤ 2147483647) ∧ (ql.length + ([headE E (((lkI M v).getD []).getD i.toNat 0)] : List Int).length ≤ 2147483647) ∧ (InR .i64 (i + 1))) [] h ⟨wk, r64, wk, ln, ln, r64⟩ fun _ _ h => ?_
     exact lp_ (hK2 (i + 1, (ptI ml (headE E (((lkI M v).getD []).getD i.toNat 0)) (((lkI ml v).getD 0) + 1)), (ql ++ ([headE E (((lkI M v).getD []).getD i.toNat 0)] : List Int))) [(0, some 0), (1, some 1), (2, some 2), (3, some 3), (4, some 4), (5, some 5), (6, some 127175)] h ⟨by omega, by omega, by rw [foldl_snoc _ _ i0 q2_, hf]; exact if_neg (nor_ q3), hM.dart (List.mem_cons_of_mem _ w3) (nor_ q3)⟩ (lt_))
   have hS {q3 : List Int} := hR.step (q2 := q3) (by assumption) (show rdarts E M v shut (m, q) = (ml, ql) by rw [List.take_of_length_le (by omega)] at hf; exact hf) hM
   have c2 := hM.n
   obtain ⟨b3, b4⟩ := hM.bd
   by_cases z1 : ql = []
   · refine with_ [C_target, inl [] [(6, true)] Try.func145, inl [] [] Try.func132, inl [] [] Try.func144] ?_
     refine go (pr := ((ql.length : Int) = 0)) [] h (by rw [z1]; rfl) fun _ _ h => ?_
     exact lp_ (hK1 (0, false, ql, ml, k + 1) [(0, some 0), (1, some 1), (2, some 2), (3, some 3), (4, some 5), (5, some 6)] h ⟨hS.1 z1, tv⟩ (by have := hR.kB; dsimp only; omega))
   have hz1 : 0 < ql.length := List.length_pos_iff.2 z1
   refine with_ [C_target, inl [] [(6, false)] Try.func145, inl [] [] Try.func132, inl [] [] Try.func144] ?_
   refine go (pr := (¬ ((ql.length : Int) = 0)) ∧ (Bnd (0 : Int) ql.length) ∧ (0 ≤ (1 : Int) ∧ (1 : Int) ≤ (ql.length : Int))) [] h ⟨by omega, bx, ct⟩ fun _ _ h => ?_
   exact lp_ (hK1 ((ql.getD 0 0), true, (ql.drop 1), ml, k + 1) [(0, some 0), (1, some 1), (2, some 2), (3, some 3), (4, some 5), (5, some 8839)] h ⟨(hS (q3 := [])).2 _ _ (cons_of z1), tv⟩ (by have := hR.kB; dsimp only; omega))
 refine go0 [] h fun _ _ h => ?_
 exact out ((m : MapD .int Int), ()) h (congrArg (·, ()) (hR.done q1))
def C_reach : Con Try.prog := plain reach_c
theorem leav_c : ConOk Try.prog 107 [(false, grT), (false, ptT)] [(.map .int (.list .int))] (fun x => partE (show Int from x.1.1) (show List (Int × Int) from x.1.2) (show List Int from x.2.1.1) (show List Int from x.2.1.2) = 0) (fun x => (leavF (show List (Int × Int) from x.1.2) (show List Int from x.2.1.2), ())) := by
 refine con_of Try.f107 51 [] Try.func107 fun o x hd _ _ h => ?_
 obtain ⟨⟨n, E⟩, ⟨V, L⟩, _⟩ := x
 change Int at n
 change List (Int × Int) at E
 change List Int at V
 change List Int at L
 have hl0 : (E.length : Int) ≤ 9223372036854775807 := lenAt h 0 (t := edT) (l := E)
 have hl1 : (V.length : Int) ≤ 9223372036854775807 := lenAt h 1 (t := .int) (l := V)
 have hl2 : (L.length : Int) ≤ 9223372036854775807 := lenAt h 2 (t := .int) (l := L)
 change partE n E V L = 0 at hd
 refine go0 [(10, true)] h fun _ _ h => ?_
 refine go_loop (Int × (List (Int × List Int))) (fun x_ => (fun (i : Int) (m : List (Int × List Int)) => ⟨[(2, ep 0), (5, em 1), (12, eo 2), (13, en (L.length : Int)), (14, en i)], [(0, some (.box 24 [.v (.int .i64 n), .own 3])), (1, some (.ext (.nmap 4 .int none .int 3 m))), (2, some (.ar .int L)), (3, some (.ar edT E))], 5⟩) x_.1 x_.2) (fun x_ => (fun (i : Int) (m : List (Int × List Int)) => 0 ≤ i ∧ i ≤ (L.length : Int) ∧ m = leavF E (L.take i.toNat)) x_.1 x_.2) (fun x_ => (fun (i : Int) (m : List (Int × List Int)) => ((L.length : Int) - i).toNat) x_.1 x_.2) (0, []) [(0, some 3), (1, some 12291), (2, some 2), (3, some 0), (4, some 12291)] h ⟨by omega, by omega, rfl⟩ fun x_ _ _ _ hK1 hI h => ?_
 obtain ⟨i, m⟩ := x_
 obtain ⟨h0, h0b, hm⟩ := hI
 dsimp only at h0 h0b hm
 refine go0 [] h fun _ _ h => ?_
 refine go_if h (fun (q1 : i < (L.length : Int)) => ?_) (fun (q1 : ¬ (i < (L.length : Int))) => ?_)
 · obtain ⟨⟨f1, f2, f3⟩, ⟨f4, f5, f6, f7⟩, f8, f9, f10, f11⟩ := leav_facts hd hm h0 q1
   refine go (pr := (Bnd i L.length) ∧ (Bnd (L.getD i.toNat 0) E.length) ∧ (Bnd (L.getD i.toNat 0) E.length) ∧ (kwf .int ((E.getD (L.getD i.toNat 0).toNat (0, 0)).1)) ∧ (InR .i64 (2 * (L.getD i.toNat 0))) ∧ (((lkI m ((E.getD (L.getD i.toNat 0).toNat (0, 0)).1)).getD []).length + ([2 * (L.getD i.toNat 0)] : List Int).length ≤ 2147483647) ∧ (kwf .int ((E.getD (L.getD i.toNat 0).toNat (0, 0)).1)) ∧ (holeK (k := .int) (some ((E.getD (L.getD i.toNat 0).toNat (0, 0)).1)) ((E.getD (L.getD i.toNat 0).toNat (0, 0)).1)) ∧ (m.length ≤ 2147483647) ∧ (kwf .int ((E.getD (L.getD i.toNat 0).toNat (0, 0)).2)) ∧ (InR .i64 (2 * (L.getD i.toNat 0))) ∧ (InR .i64 ((2 * (L.getD i.toNat 0)) + 1)) ∧ (((lkI (ptI m ((E.getD (L.getD i.toNat 0).toNat (0, 0)).1) (((lkI m ((E.getD (L.getD i.toNat 0).toNat (0, 0)).1)).getD []) ++ ([2 * (L.getD i.toNat 0)] : List Int))) ((E.getD (L.getD i.toNat 0).toNat (0, 0)).2)).getD []).length + ([(2 * (L.getD i.toNat 0)) + 1] : List Int).length ≤ 2147483647) ∧ (kwf .int ((E.getD (L.getD i.toNat 0).toNat (0, 0)).2)) ∧ (holeK (k := .int) (some ((E.getD (L.getD i.toNat 0).toNat (0, 0)).2)) ((E.getD (L.getD i.toNat 0).toNat (0, 0)).2)) ∧ ((ptI m ((E.getD (L.getD i.toNat 0).toNat (0, 0)).1) (((lkI m ((E.getD (L.getD i.toNat 0).toNat (0, 0)).1)).getD []) ++ ([2 * (L.getD i.toNat 0)] : List Int))).length ≤ 2147483647) ∧ (InR .i64 (i + 1))) [] h ⟨bx, bx, bx, wk, r64, ln, wk, rfl, ln, wk, r64, r64, ln, wk, rfl, ln, r64⟩ fun _ _ h => ?_
   exact lp_ (hK1 (i + 1, (ptI (ptI m ((E.getD (L.getD i.toNat 0).toNat (0, 0)).1) (((lkI m ((E.getD (L.getD i.toNat 0).toNat (0, 0)).1)).getD []) ++ ([2 * (L.getD i.toNat 0)] : List Int))) ((E.getD (L.getD i.toNat 0).toNat (0, 0)).2) (((lkI (ptI m ((E.getD (L.getD i.toNat 0).toNat (0, 0)).1) (((lkI m ((E.getD (L.getD i.toNat 0).toNat (0, 0)).1)).getD []) ++ ([2 * (L.getD i.toNat 0)] : List Int))) ((E.getD (L.getD i.toNat 0).toNat (0, 0)).2)).getD []) ++ ([(2 * (L.getD i.toNat 0)) + 1] : List Int)))) [(0, some 0), (1, some 1), (2, some 2), (3, some 3), (4, some 155653)] h ⟨by omega, by omega, by rw [leavF_snoc h0 q1, ← hm]; rfl⟩ (lt_))
 refine go0 [] h fun _ _ h => ?_
 exact out ((m : MapD .int (List Int)), ()) h (by rw [hm, List.take_of_length_le (by omega)])
def C_leav : Con Try.prog := plain leav_c
end Go.Proofs.Ytahonnlgkmimlaa
namespace Go.Proofs.Ytahonnlgkmimlaa
open Go.RowKit
open Go.Proofs.Ytahonnlgkmimlaa.Deep
section
variable {E : List (Int × Int)} {M : List (Int × List Int)} {a shut v d : Int} {k f : Nat} {m : List (Int × Int)} {q : List Int} {n : Int}
theorem mid_dart1 (h : Mid E a v k m q) (hd : headE E d ∈ univ E a) : Mid E a v k (rdart E v shut (m, q) d).1 (rdart E v shut (m, q) d).2 := by
 by_cases hn : (lkI m (headE E d)).isSome = true ∨ headE E d = shut
 · have e : rdart E v shut (m, q) d = (m, q) := by unfold rdart; rw [if_pos hn]
   rw [e]; exact h
 have e : rdart E v shut (m, q) d = (ptI m (headE E d) ((lkI m v).getD 0 + 1), q ++ [headE E d]) := by unfold rdart; rw [if_neg hn]
 rw [e]; exact h.dart hd hn
theorem mid_darts : ∀ {l : List Int} {m : List (Int × Int)} {q : List Int}, Mid E a v k m q → (∀ d ∈ l, headE E d ∈ univ E a) → Mid E a v k (l.foldl (rdart E v shut) (m, q)).1 (l.foldl (rdart E v shut) (m, q)).2
 | [], m, q, h, _ => h
 | d :: l, m, q, h, hd => by
   rw [List.foldl_cons]
   exact mid_darts (mid_dart1 h (hd d List.mem_cons_self)) fun x hx => hd x (List.mem_cons_of_mem _ hx)
theorem rdart_mono {s : List (Int × Int) × List Int} {x : Int} (h : (lkI s.1 x).isSome = true) : (lkI (rdart E v shut s d).1 x).isSome = true := by
 unfold rdart
 split
 · exact h
 show (lkI (ptI s.1 _ _) x).isSome = true
 rw [lkI_pt]; split
 · rfl
 exact h
theorem rdarts_mono : ∀ {l : List Int} {s : List (Int × Int) × List Int} {x : Int}, (lkI s.1 x).isSome = true → (lkI (l.foldl (rdart E v shut) s).1 x).isSome = true
 | [], _, _, h => h
 | d :: l, s, x, h => by rw [List.foldl_cons]; exact rdarts_mono (rdart_mono h)
theorem rdarts_head : ∀ {l : List Int} {s : List (Int × Int) × List Int}, ∀ d ∈ l, headE E d ≠ shut → (lkI (l.foldl (rdart E v shut) s).1 (headE E d)).isSome = true
 | e :: l, s, d, hd, hs => by
   rw [List.foldl_cons]
   rcases List.mem_cons.1 hd with rfl | hd
   · refine rdarts_mono ?_
     unfold rdart
     split
     · rename_i h; exact h.resolve_right hs
     show (lkI (ptI s.1 _ _) _).isSome = true
     rw [lkI_pt, if_pos rfl]; rfl
   exact rdarts_head d hd hs
theorem rdarts_queue : ∀ {l : List Int} {s : List (Int × Int) × List Int} {x : Int}, (lkI (l.foldl (rdart E v shut) s).1 x).isSome = true → (lkI s.1 x).isSome = true ∨ x ∈ (l.foldl (rdart E v shut) s).2
 | [], _, _, h => .inl h
 | d :: l, s, x, h => by
   rw [List.foldl_cons] at h ⊢
   rcases rdarts_queue h with h1 | h1
   · unfold rdart at h1
     split at h1
     · exact .inl h1
     rename_i hn
     have h1 : (lkI (ptI s.1 (headE E d) _) x).isSome = true := h1
     rw [lkI_pt] at h1
     split at h1
     · rename_i e
       refine .inr ?_
       have mono : ∀ {l : List Int} {s : List (Int × Int) × List Int} {y : Int}, y ∈ s.2 → y ∈ (l.foldl (rdart E v shut) s).2 := by
         intro l
         induction l with
         | nil => intro s y h; exact h
         | cons e l ih =>
           intro s y h
           rw [List.foldl_cons]
           refine ih ?_
           unfold rdart
           split
           · exact h
           exact List.mem_append_left _ h
       refine mono ?_
       unfold rdart
       rw [if_neg hn]
       exact List.mem_append_right _ (by rw [e]; exact List.mem_singleton.2 rfl)
     exact .inl h1
   exact .inr h1
theorem rdarts_keep : ∀ {l : List Int} {s : List (Int × Int) × List Int} {y : Int}, y ∈ s.2 → y ∈ (l.foldl (rdart E v shut) s).2
 | [], _, _, h => h
 | d :: l, s, y, h => by
   rw [List.foldl_cons]
   refine rdarts_keep ?_
   unfold rdart
   split
   · exact h
   exact List.mem_append_left _ h
theorem run_ok (hD : ∀ v, ∀ d ∈ (lkI M v).getD [], headE E d ∈ univ E a) : ∀ (f : Nat) (k : Nat) (v : Int) (m : List (Int × Int)) (q : List Int), Mid E a v k m q → (∀ p ∈ m, p.2 ≤ (k : Int)) → f + k = 2 * E.length + 2 →
   (∀ x, (lkI m x).isSome = true → x = v ∨ x ∈ q ∨ ∀ d ∈ (lkI M x).getD [], headE E d ≠ shut → (lkI m (headE E d)).isSome = true) →
   Srch (univ E a) (runR E M shut f v (m, q), []) ∧ (∀ x, (lkI m x).isSome = true → (lkI (runR E M shut f v (m, q)) x).isSome = true) ∧
     ∀ x, (lkI (runR E M shut f v (m, q)) x).isSome = true → ∀ d ∈ (lkI M x).getD [], headE E d ≠ shut → (lkI (runR E M shut f v (m, q)) (headE E d)).isSome = true
 | 0, k, v, m, q, h, _, hf, _ => by have := h.bd; omega
 | f + 1, k, v, m, q, h, hval, hf, hc => by
   have h1 : Mid E a v k (rdarts E M v shut (m, q)).1 (rdarts E M v shut (m, q)).2 := mid_darts h (hD v)
   have hmono : ∀ x, (lkI m x).isSome = true → (lkI (rdarts E M v shut (m, q)).1 x).isSome = true := fun x hx => rdarts_mono (s := (m, q)) hx
   have hclo : ∀ x, (lkI (rdarts E M v shut (m, q)).1 x).isSome = true → x ∈ (rdarts E M v shut (m, q)).2 ∨ ∀ d ∈ (lkI M x).getD [], headE E d ≠ shut → (lkI (rdarts E M v shut (m, q)).1 (headE E d)).isSome = true := fun x hx => by
     rcases rdarts_queue (s := (m, q)) hx with h2 | h2
     · rcases hc x h2 with rfl | h3 | h3
       · exact .inr fun d hd hs => rdarts_head d hd hs
       · exact .inl (rdarts_keep (s := (m, q)) h3)
       exact .inr fun d hd hs => hmono _ (h3 d hd hs)
     exact .inl h2
   have hrun : runR E M shut (f + 1) v (m, q) = (match (rdarts E M v shut (m, q)).2 with
     | [] => (rdarts E M v shut (m, q)).1
     | x :: t => runR E M shut f x ((rdarts E M v shut (m, q)).1, t)) := rfl
   rw [hrun]
   generalize hs : rdarts E M v shut (m, q) = s at *
   obtain ⟨m', q'⟩ := s
   cases q' with
   | nil =>
     refine ⟨⟨h1.s.nd, h1.s.sub⟩, hmono, fun x hx d hd hs => ?_⟩
     rcases hclo x hx with h2 | h2
     · cases h2
     exact h2 d hd hs
   | cons x t =>
     have hM : Mid E a x (k + 1) m' t := by
       refine ⟨⟨h1.s.nd, h1.s.sub⟩, h1.qU x List.mem_cons_self, fun y hy => h1.qU y (List.mem_cons_of_mem _ hy), ?_, fun p hp => ?_, h1.qM x List.mem_cons_self, fun y hy => h1.qM y (List.mem_cons_of_mem _ hy), ?_⟩
       · have := h1.n; simp only [List.length_cons] at this; omega
       · have := h1.b p hp; exact ⟨this.1, by omega⟩
       exact lkI_getD_mem (P := fun y => 0 ≤ y ∧ y ≤ ((k + 1 : Nat) : Int)) ⟨by omega, by omega⟩ (fun p hp => by have := h1.b p hp; exact ⟨this.1, by omega⟩) x
     obtain ⟨r1, r2, r3⟩ := run_ok hD f (k + 1) x m' t hM (fun p hp => by have := h1.b p hp; omega) (by omega) (fun y hy => by
       rcases hclo y hy with h2 | h2
       · rcases List.mem_cons.1 h2 with rfl | h2
         · exact .inl rfl
         exact .inr (.inl h2)
       exact .inr (.inr h2))
     exact ⟨r1, fun y hy => r2 y (hmono y hy), r3⟩
theorem reach_ok (hD : ∀ v, ∀ d ∈ (lkI M v).getD [], headE E d ∈ univ E a) : (reachF E M a shut).length ≤ 2 * E.length + 1 ∧ (∀ p ∈ reachF E M a shut, p.1 ∈ univ E a) ∧ (lkI (reachF E M a shut) a).isSome = true ∧
   ∀ x, (lkI (reachF E M a shut) x).isSome = true → ∀ d ∈ (lkI M x).getD [], headE E d ≠ shut → (lkI (reachF E M a shut) (headE E d)).isSome = true := by
 obtain ⟨h1, h2, _⟩ := (RInv.init E M a shut).go rfl
 obtain ⟨r1, r2, r3⟩ := run_ok (shut := shut) hD (2 * E.length + 2) 0 a [(a, 0)] [] h1 (fun p hp => by have := h2 p hp; simpa using this) (by omega) (fun x hx => by
   left
   cases hl : lkI [(a, (0 : Int))] x with
   | none => rw [hl] at hx; cases hx
   | some z => have := List.mem_singleton.1 (lkI_mem hl); cases this; rfl)
 have hlen := r1.len
 rw [univ_len] at hlen
 exact ⟨hlen, r1.sub, r2 a (by rw [lkI_one]; rfl), r3⟩
theorem leav_DOk {V L : List Int} (hp : partE n E V L = 0) : DOk E (leavF E L) := fun v d hd => by
 rw [leav_look] at hd
 obtain ⟨h1, h2⟩ := mem_dartsL.1 hd
 have := (rises_iff.1 (partE_0 hp).2.2.1).2 _ h1
 constructor
 · omega
 exact this.2
theorem dok_head (hr : rightE n E = 0) (hD : DOk E M) (a : Int) : ∀ v, ∀ d ∈ (lkI M v).getD [], headE E d ∈ univ E a := fun v d hd => by
 obtain ⟨h1, h2⟩ := hD v d hd
 exact List.mem_cons_of_mem _ (headE_in hr h1 h2).2.2
theorem reach_rch {V L : List Int} (hp : partE n E V L = 0) {x : Int} (h : (grE E L).Rch (· ≠ -1) a x) : (lkI (reachF E (leavF E L) a (-1)) x).isSome = true := by
 have hr := (partE_0 hp).1
 obtain ⟨_, _, h1, h2⟩ := reach_ok (shut := -1) (dok_head hr (leav_DOk hp) a)
 have hdk := darts_ok (E := E) (partE_0 hp).2.2.1
 refine h.closed (Q := fun x => (lkI (reachF E (leavF E L) a (-1)) x).isSome = true) (fun x y hx ha hy => ?_) h1
 obtain ⟨f, hf, hj⟩ := ha
 obtain ⟨d, hd, hdf⟩ := hdk.all f x hf hj.left
 obtain ⟨_, hj2⟩ := hdk.mem x d hd
 rw [hdf] at hj2
 have hd2 : d ∈ (lkI (leavF E L) x).getD [] := by rw [leav_look]; exact hd
 by_cases e : headE E d = y
 · subst e; exact h2 x hx d hd2 hy
 -- the edge's other end is y, so y is x
 have h3 := hj2.of (z := y) hj.right
 rcases h3 with rfl | h3
 · exact hx
 exact (e h3.symm).elim
end
def keysPut (pm m : List (Int × Int)) (c : Int) : List (Int × Int) := m.foldl (fun p q => ptI p q.1 c) pm
open Classical in
theorem keysPut_look {c : Int} : ∀ {m pm : List (Int × Int)} {x : Int}, lkI (keysPut pm m c) x = if (lkI m x).isSome = true then some c else lkI pm x := by
 have key : ∀ (m pm : List (Int × Int)) (x : Int), lkI (keysPut pm m c) x = if ∃ v, (x, v) ∈ m then some c else lkI pm x := by
   intro m
   induction m with
   | nil => intro pm x; show lkI pm x = _; rw [if_neg (by rintro ⟨v, h⟩; cases h)]
   | cons p m ih =>
     intro pm x
     show lkI (keysPut (ptI pm p.1 c) m c) x = _
     rw [ih, lkI_pt]
     by_cases h1 : ∃ v, (x, v) ∈ m
     · obtain ⟨v, hv⟩ := h1
       rw [if_pos ⟨v, hv⟩, if_pos ⟨v, List.mem_cons_of_mem _ hv⟩]
     rw [if_neg h1]
     by_cases h2 : p.1 = x
     · rw [if_pos h2, if_pos ⟨p.2, by rw [← h2]; exact List.mem_cons_self⟩]
     rw [if_neg h2, if_neg]
     rintro ⟨v, hv⟩
     rcases List.mem_cons.1 hv with e | hv
     · rw [← e] at h2; exact h2 rfl
     exact h1 ⟨v, hv⟩
 intro m pm x
 rw [key]
 by_cases h : ∃ v, (x, v) ∈ m
 · rw [if_pos h, if_pos]
   cases hl : lkI m x with
   | none => obtain ⟨v, hv⟩ := h; exact (lkI_none.1 hl v hv).elim
   | some z => rfl
 rw [if_neg h, if_neg]
 intro q
 obtain ⟨z, hz⟩ := Option.isSome_iff_exists.1 q
 exact h ⟨z, lkI_mem hz⟩
abbrev PLs := List (List Int × List Int)
def pieV (out : PLs) (i v : Int) : PLs := out.set i.toNat ((out.getD i.toNat ([], [])).1 ++ [v], (out.getD i.toNat ([], [])).2)
def pieE (out : PLs) (i e : Int) : PLs := out.set i.toNat ((out.getD i.toNat ([], [])).1, (out.getD i.toNat ([], [])).2 ++ [e])
def pstep (E : List (Int × Int)) (M : List (Int × List Int)) (s : List (Int × Int) × PLs) (v : Int) : List (Int × Int) × PLs :=
 if (lkI s.1 v).isSome = true then (s.1, pieV s.2 ((lkI s.1 v).getD 0) v)
 else (keysPut s.1 (reachF E M v (-1)) (s.2.length : Int), pieV (s.2 ++ [([], [])]) (s.2.length : Int) v)
def estep (E : List (Int × Int)) (pm : List (Int × Int)) (out : PLs) (e : Int) : PLs := pieE out ((lkI pm (E.getD e.toNat (0, 0)).1).getD 0) e
def piecesF (E : List (Int × Int)) (V L : List Int) : PLs := L.foldl (estep E (V.foldl (pstep E (leavF E L)) ([], [])).1) (V.foldl (pstep E (leavF E L)) ([], [])).2
structure ItI (R pm : List (Int × Int)) (c : Int) (lf : Int → Bool) (cnt : Nat) (pm2 : List (Int × Int)) : Prop where
 a : ∀ z, lf z = true → (lkI R z).isSome = true
 b : ∀ z, lkI pm2 z = if (lkI R z).isSome = true ∧ lf z = false then some c else lkI pm z
 n : pm2.length + cnt ≤ pm.length + R.length
theorem ItI.start (R pm : List (Int × Int)) (c : Int) : ItI R pm c (fun z => (lkI R z).isSome) R.length pm :=
 ⟨fun z h => h, fun z => by rw [if_neg (by rintro ⟨h1, h2⟩; rw [h1] at h2; cases h2)], Nat.le_refl _⟩
theorem ItI.step {R pm pm2 : List (Int × Int)} {c : Int} {lf : Int → Bool} {cnt cnt' : Nat} (h : ItI R pm c lf cnt pm2) {k v : Int} (hl : lf k = true) (hk : lkI R k = some v) (hc : cnt' < cnt) :
   ItI R pm c (fun z => lf z && !decide (z = k)) cnt' (ptI pm2 k c) := by
 refine ⟨fun z hz => ?_, fun z => ?_, ?_⟩
 · rw [Bool.and_eq_true] at hz; exact h.a z hz.1
 · rw [lkI_pt, h.b]
   by_cases e : k = z
   · subst e
     rw [if_pos rfl, if_pos ⟨by rw [hk]; rfl, by simp⟩]
   rw [if_neg e]
   have hne : ¬ z = k := fun q => e q.symm
   have : (lf z && !decide (z = k)) = lf z := by simp [hne]
   rw [this]
 have := h.n
 have := ptI_len pm2 k c
 omega
theorem ItI.fin {R pm pm2 : List (Int × Int)} {c : Int} {lf : Int → Bool} {cnt : Nat} (h : ItI R pm c lf cnt pm2) (hl : ∀ z, lf z = false) : (∀ z, lkI pm2 z = if (lkI R z).isSome = true then some c else lkI pm z) ∧ pm2.length ≤ pm.length + R.length := by
 refine ⟨fun z => ?_, by have := h.n; omega⟩
 rw [h.b]
 by_cases e : (lkI R z).isSome = true
 · rw [if_pos ⟨e, hl z⟩, if_pos e]
 rw [if_neg (fun q => e q.1), if_neg e]
structure PInv (E : List (Int × Int)) (V L : List Int) (i : Int) (pm : List (Int × Int)) (out : PLs) : Prop where
 f : ∃ p', (V.take i.toNat).foldl (pstep E (leavF E L)) ([], []) = (p', out) ∧ ∀ x, lkI pm x = lkI p' x
 b : ∀ x c, lkI pm x = some c → 0 ≤ c ∧ c < (out.length : Int)
 n : pm.length ≤ i.toNat * 3000
 o : out.length ≤ i.toNat
 r : ∀ x ∈ out, x.1.length ≤ i.toNat ∧ x.2 = []
 d : ∀ j : Nat, (j : Int) < i → (lkI pm (V.getD j 0)).isSome = true
theorem PInv.zero (E : List (Int × Int)) (V L : List Int) : PInv E V L 0 [] [] := ⟨⟨[], rfl, fun _ => rfl⟩, (fun x c h => by cases h), Nat.zero_le _, Nat.zero_le _, (fun x h => by cases h), fun j h => by omega⟩
theorem pieV_len (out : PLs) (i v : Int) : (pieV out i v).length = out.length := List.length_set
theorem pieE_len (out : PLs) (i v : Int) : (pieE out i v).length = out.length := List.length_set
theorem pieV_mem {out : PLs} {i v : Int} {k : Nat} (h : ∀ x ∈ out, x.1.length ≤ k ∧ x.2 = []) : ∀ x ∈ pieV out i v, x.1.length ≤ k + 1 ∧ x.2 = [] := fun x hx => by
 rcases List.mem_or_eq_of_mem_set hx with q | rfl
 · exact ⟨Nat.le_succ_of_le (h x q).1, (h x q).2⟩
 have : ∀ j, (out.getD j ([], [])).1.length ≤ k ∧ (out.getD j ([], [])).2 = [] := fun j => by
   rw [List.getD_eq_getElem?_getD]
   cases hj : out[j]? with
   | none => exact ⟨by simp, rfl⟩
   | some y => exact h y (List.mem_of_getElem? hj)
 obtain ⟨q1, q2⟩ := this i.toNat
 exact ⟨by show (_ ++ [v]).length ≤ _; rw [List.length_append]; simp; exact q1, q2⟩
section
variable {E : List (Int × Int)} {V L : List Int} {i : Int} {pm pm2 : List (Int × Int)} {out : PLs}
theorem PInv.met (h : PInv E V L i pm out) (h0 : 0 ≤ i) (h1 : i < (V.length : Int)) (hm : (lkI pm (V.getD i.toNat 0)).isSome = true) : PInv E V L (i + 1) pm (pieV out ((lkI pm (V.getD i.toNat 0)).getD 0) (V.getD i.toNat 0)) := by
 obtain ⟨p', f1, f2⟩ := h.f
 have hi : (i + 1).toNat = i.toNat + 1 := by omega
 refine ⟨⟨p', ?_, f2⟩, fun x c hx => by rw [pieV_len]; exact h.b x c hx, Nat.le_trans h.n (Nat.mul_le_mul_right _ (by omega)), by rw [pieV_len]; have := h.o; omega, by rw [hi]; exact pieV_mem h.r, fun j hj => ?_⟩
 · rw [foldl_snoc _ _ h0 h1, f1]
   unfold pstep
   simp only
   rw [← f2, if_pos hm]
 by_cases e : (j : Int) < i
 · exact h.d j e
 rw [show j = i.toNat by omega]; exact hm
theorem PInv.new (h : PInv E V L i pm out) (h0 : 0 ≤ i) (h1 : i < (V.length : Int)) (hm : (lkI pm (V.getD i.toNat 0)).isSome = false) (hR : (lkI (reachF E (leavF E L) (V.getD i.toNat 0) (-1)) (V.getD i.toNat 0)).isSome = true) (hlen : (reachF E (leavF E L) (V.getD i.toNat 0) (-1)).length ≤ 3000)
   (hp : (∀ z, lkI pm2 z = if (lkI (reachF E (leavF E L) (V.getD i.toNat 0) (-1)) z).isSome = true then some (out.length : Int) else lkI pm z) ∧ pm2.length ≤ pm.length + (reachF E (leavF E L) (V.getD i.toNat 0) (-1)).length) :
   PInv E V L (i + 1) pm2 (pieV (out ++ [([], [])]) ((lkI pm2 (V.getD i.toNat 0)).getD 0) (V.getD i.toNat 0)) ∧ lkI pm2 (V.getD i.toNat 0) = some (out.length : Int) := by
 obtain ⟨p', f1, f2⟩ := h.f
 obtain ⟨p1, p2⟩ := hp
 have hi : (i + 1).toNat = i.toNat + 1 := by omega
 have hv : lkI pm2 (V.getD i.toNat 0) = some (out.length : Int) := by rw [p1, if_pos hR]
 refine ⟨⟨⟨keysPut p' (reachF E (leavF E L) (V.getD i.toNat 0) (-1)) (out.length : Int), ?_, fun x => ?_⟩, fun x c hx => ?_, ?_, ?_, ?_, fun j hj => ?_⟩, hv⟩
 · rw [foldl_snoc _ _ h0 h1, f1, hv]
   unfold pstep
   simp only
   rw [← f2, if_neg (by rw [hm]; decide)]; rfl
 · rw [p1, keysPut_look, f2]
 · rw [pieV_len, List.length_append]
   rw [p1] at hx
   split at hx
   · cases hx
     simp only [List.length_singleton]; omega
   have := h.b x c hx
   simp only [List.length_singleton]; omega
 · have := h.n; rw [hi, Nat.succ_mul]; omega
 · rw [pieV_len, List.length_append]; have := h.o; simp only [List.length_singleton]; omega
 · rw [hi]
   refine pieV_mem fun x hx => ?_
   rcases List.mem_append.1 hx with hx | hx
   · exact h.r x hx
   rw [List.mem_singleton.1 hx]; exact ⟨by simp, rfl⟩
 rw [p1]
 split
 · rfl
 by_cases e : (j : Int) < i
 · exact h.d j e
 rename_i q
 rw [show j = i.toNat by omega] at q; exact (q hR).elim
theorem PInv.at_ (h : PInv E V L i pm out) (h0 : 0 ≤ i) (h1 : i ≤ (V.length : Int)) {x : Int} (hm : (lkI pm x).isSome = true) : (0 ≤ (lkI pm x).getD 0 ∧ (lkI pm x).getD 0 < (out.length : Int)) ∧ (out.getD ((lkI pm x).getD 0).toNat ([], [])).1.length ≤ V.length := by
 obtain ⟨c, hc⟩ := Option.isSome_iff_exists.1 hm
 rw [hc]
 refine ⟨h.b x c hc, ?_⟩
 rw [List.getD_eq_getElem?_getD]
 cases hj : out[c.toNat]? with
 | none => simp [hj]
 | some y =>
   have := (h.r y (List.mem_of_getElem? hj)).1
   simp [hj]; omega
structure EInv (E : List (Int × Int)) (V L : List Int) (j : Int) (m : Nat) (o2 : PLs) : Prop where
 f : (L.take j.toNat).foldl (estep E (V.foldl (pstep E (leavF E L)) ([], [])).1) (V.foldl (pstep E (leavF E L)) ([], [])).2 = o2
 n : o2.length = m
 r : ∀ x ∈ o2, x.2.length ≤ j.toNat
theorem PInv.fin (h : PInv E V L i pm out) (h1 : ¬ i < (V.length : Int)) : (∀ x, lkI pm x = lkI (V.foldl (pstep E (leavF E L)) ([], [])).1 x) ∧ (V.foldl (pstep E (leavF E L)) ([], [])).2 = out ∧ EInv E V L 0 out.length out := by
 obtain ⟨p', f1, f2⟩ := h.f
 rw [List.take_of_length_le (by omega)] at f1
 refine ⟨fun x => by rw [f1]; exact f2 x, by rw [f1], by rw [f1]; rfl, rfl, fun x hx => by rw [(h.r x hx).2]; simp⟩
theorem EInv.step {j : Int} {m : Nat} {o2 : PLs} (h : EInv E V L j m o2) (hp : ∀ x, lkI pm x = lkI (V.foldl (pstep E (leavF E L)) ([], [])).1 x) (h0 : 0 ≤ j) (h1 : j < (L.length : Int)) :
   EInv E V L (j + 1) m (pieE o2 ((lkI pm (E.getD (L.getD j.toNat 0).toNat (0, 0)).1).getD 0) (L.getD j.toNat 0)) := by
 have hi : (j + 1).toNat = j.toNat + 1 := by omega
 refine ⟨?_, by rw [pieE_len]; exact h.n, fun x hx => ?_⟩
 · rw [foldl_snoc _ _ h0 h1, h.f, hp]; rfl
 rw [hi]
 rcases List.mem_or_eq_of_mem_set hx with q | rfl
 · exact Nat.le_succ_of_le (h.r x q)
 show (_ ++ [_]).length ≤ _
 rw [List.length_append]
 have : ∀ k, (o2.getD k ([], [])).2.length ≤ j.toNat := fun k => by
   rw [List.getD_eq_getElem?_getD]
   cases hk : o2[k]? with
   | none => simp
   | some y => exact h.r y (List.mem_of_getElem? hk)
 simp only [List.length_singleton]
 exact Nat.succ_le_succ (this _)
theorem EInv.at_ {j : Int} {m : Nat} {o2 : PLs} (h : EInv E V L j m o2) (k : Nat) : (o2.getD k ([], [])).2.length ≤ j.toNat := by
 rw [List.getD_eq_getElem?_getD]
 cases hk : o2[k]? with
 | none => simp
 | some y => exact h.r y (List.mem_of_getElem? hk)
theorem PInv.at2 {x : Int} (h : lkI pm2 x = some (out.length : Int)) : (0 ≤ (lkI pm2 x).getD 0 ∧ (lkI pm2 x).getD 0 < ((out ++ [([], [])]).length : Int)) ∧ ((out ++ [([], [])]).getD ((lkI pm2 x).getD 0).toNat ([], [])).1.length ≤ 0 := by
 rw [h]
 refine ⟨by simp only [Option.getD_some, List.length_append, List.length_singleton]; omega, ?_⟩
 simp
theorem PInv.all (h : PInv E V L i pm out) (h1 : ¬ i < (V.length : Int)) {x : Int} (hx : x ∈ V) : (lkI pm x).isSome = true := by
 obtain ⟨j, hj, rfl⟩ := mem_getD.1 hx
 exact h.d j (by omega)
theorem pieces_ret {n : Int} {o2 : PLs} (hp : partE n E V L = 0) (e : L.foldl (estep E (V.foldl (pstep E (leavF E L)) ([], [])).1) (V.foldl (pstep E (leavF E L)) ([], [])).2 = o2) : ((o2, (0 : Int), ()) : PLs × Int × Unit) = (if partE n E V L ≠ 0 then [] else piecesF E V L, partE n E V L, ()) := by
 rw [if_neg (fun q => q hp), hp, ← e]; rfl
theorem part_ends {n j : Int} (hp : partE n E V L = 0) (h0 : 0 ≤ j) (h1 : j < (L.length : Int)) : (E.getD (L.getD j.toNat 0).toNat (0, 0)).1 ∈ V ∧ (E.getD (L.getD j.toNat 0).toNat (0, 0)).2 ∈ V := by
 obtain ⟨hr, hV, hL, hok⟩ := partE_0 hp
 obtain ⟨a, b⟩ := hok j.toNat (by omega)
 rw [hasB_mem hV] at a b
 exact ⟨of_decide_eq_true a, of_decide_eq_true b⟩
end
def subV (V l : List Int) : List Int := V.filter fun v => decide (v ∈ l)
def subL (E : List (Int × Int)) (L l : List Int) : List Int := L.filter fun e => decide ((E.getD e.toNat (0, 0)).1 ∈ l) && decide ((E.getD e.toNat (0, 0)).2 ∈ l)
theorem filt_yes {p : Int → Bool} {l : List Int} {i : Int} (h0 : 0 ≤ i) (h : i < (l.length : Int)) (hp : p (l.getD i.toNat 0) = true) : (l.take (i + 1).toNat).filter p = (l.take i.toNat).filter p ++ [l.getD i.toNat 0] := by
 rw [show (i + 1).toNat = i.toNat + 1 by omega, List.take_succ_eq_append_getElem (by omega), List.filter_append]
 rw [List.getD_eq_getElem?_getD, List.getElem?_eq_getElem (show i.toNat < l.length by omega)] at hp ⊢
 simp only [Option.getD_some] at hp ⊢
 rw [List.filter_cons, if_pos hp]; rfl
theorem filt_no {p : Int → Bool} {l : List Int} {i : Int} (h0 : 0 ≤ i) (h : i < (l.length : Int)) (hp : p (l.getD i.toNat 0) = false) : (l.take (i + 1).toNat).filter p = (l.take i.toNat).filter p := by
 rw [show (i + 1).toNat = i.toNat + 1 by omega, List.take_succ_eq_append_getElem (by omega), List.filter_append]
 rw [List.getD_eq_getElem?_getD, List.getElem?_eq_getElem (show i.toNat < l.length by omega)] at hp
 simp only [Option.getD_some] at hp
 rw [List.filter_cons, if_neg (by rw [hp]; decide)]; simp
theorem filt_len {p : Int → Bool} {l : List Int} {i : Nat} : ((l.take i).filter p).length ≤ i := Nat.le_trans (List.length_filter_le _ _) (by rw [List.length_take]; exact Nat.min_le_left _ _)
def joinedB (n : Int) (E : List (Int × Int)) (V L : List Int) : Bool := decide (partE n E V L = 0) && decide (((if partE n E V L ≠ 0 then [] else piecesF E V L).length : Int) ≤ 1)
theorem Try.E27 : Elem Try.prog 27 3 (Data.size Int) 8 := elem_of (z := .int .i64 0) Try.underlying27 (by kernel_rfl) rfl (by decide)
end Go.Proofs.Ytahonnlgkmimlaa
