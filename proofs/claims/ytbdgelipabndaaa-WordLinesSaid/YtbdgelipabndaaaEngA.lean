/-
  What one operation that only computes or reads yields, as a function of its operands' values; and that it is so. No program in sight.
-/
import Derived.Test.YtbdgelipabndaaaLibC
import Derived.Deep.Quiet
set_option linter.unusedSimpArgs false
set_option linter.unusedVariables false
namespace Go.Proofs.Ytbdgelipabndaaa
open Go.RowKit

/-- A number fits its kind. -/
def InR : IntKind → Int → Prop
  | .i64, n => -9223372036854775808 ≤ n ∧ n ≤ 9223372036854775807
  | .i32, n => -2147483648 ≤ n ∧ n ≤ 2147483647
  | .u8, n => 0 ≤ n ∧ n ≤ 255
  | .u32, n => 0 ≤ n ∧ n ≤ 4294967295
  | .u64, n => 0 ≤ n ∧ n ≤ 18446744073709551615
  | _, _ => False

theorem InR.wrap {k : IntKind} {n : Int} (h : InR k n) : k.wrap n = n := by
  cases k <;> simp only [InR] at h <;> first | exact h.elim | skip
  all_goals simp only [IntKind.wrap, IntKind.signed, IntKind.bits]
  all_goals simp
  all_goals first | omega | (split <;> omega)

/-- Where a slice's first cell, or a pointer's cell, lies. -/
def hdB : Value → Nat
  | .slice (some a) _ _ => a.block
  | .pointer (some a) => a.block
  | _ => 0
def hdO : Value → Nat
  | .slice (some a) _ _ => a.off
  | .pointer (some a) => a.off
  | _ => 0

/-- The slice v has n elements. -/
def LenOk (v : Value) (n : Int) : Prop := ∃ p m c, v = .slice p m c ∧ n = (m : Int)
/-- The slice v has an element number i. -/
def IdxOk (v : Value) (i : Int) : Prop := ∃ b o n c, v = .slice (some ⟨b, o, none⟩) n c ∧ 0 ≤ i ∧ i < n
def CellOk (C : World → Prop) (b o : Nat) (u : Value) : Prop := ∀ w, C w → w.cell? ⟨b, o, none⟩ = some u
def RowOk (C : World → Prop) (b o n : Nat) (us : Array Value) : Prop := us.size = n ∧ ∀ w, C w → ∀ j, j < n → w.cell? ⟨b, o + j, none⟩ = us[j]?
/-- A function of the program's own text. -/
def Callable (P : Program) (f : FuncId) : Prop := ∃ fn, P.funcs[f]? = some fn ∧ (fn.name == "runtime.NumGoroutine") = false ∧ fn.body.isNone = false
def CallOk (P : Program) (C : World → Prop) (f : FuncId) (args : Array Value) (v : Value) : Prop := ∀ w, C w → Calls P f args w (fun e w' => e = .returned v ∧ C w')
def StrAt (s : ByteArray) (i : Int) : Int := ((s.data.getD i.toNat 0).toNat : Int)

def EqOk (P : Program) (t : TypeId) (x y : Value) (r : Bool) : Prop := ∀ w, (Op.equal t x y).run P w = .ok r w

def evBin (P : Program) (op : BinOp) (t : TypeId) (x y : Value) (orc : Option Value) : Option (Value × Prop) :=
  match x, y with
  | .int k a, .int k' b =>
    match op, orc with
    | .shr, some (.int _ u) => some (.int k u, 0 ≤ b ∧ a.fdiv (2 ^ (min b.toNat k.bits)) = u)
    | _, _ => if k = k' then
      match op with
      | .add => some (.int k (a + b), InR k (a + b))
      | .sub => some (.int k (a - b), InR k (a - b))
      | .mul => some (.int k (a * b), InR k (a * b))
      | .quo => some (.int k (a / b), 0 ≤ a ∧ 0 < b ∧ InR k a)
      | .rem => some (.int k (a % b), 0 ≤ a ∧ 0 < b)
      | .eql => some (.bool (decide (a = b)), True)
      | .neq => some (.bool (!decide (a = b)), True)
      | .lss => some (.bool (decide (a < b)), True)
      | .leq => some (.bool (decide (a ≤ b)), True)
      | .gtr => some (.bool (decide (b < a)), True)
      | .geq => some (.bool (decide (b ≤ a)), True)
      | _ => none
    else none
  | .string a, .string b =>
    match op with
    | .add => some (.string (a ++ b), a.size + b.size ≤ 9223372036854775807)
    | .eql => some (.bool (a.toList == b.toList), True)
    | .neq => some (.bool (!(a.toList == b.toList)), True)
    | _ => none
  | .bool a, .bool b =>
    match op with
    | .eql => some (.bool (a == b), P.underlying t = some .bool)
    | .neq => some (.bool (!(a == b)), P.underlying t = some .bool)
    | _ => none
  | .agg a, .agg b =>
    match op, orc with
    | .eql, some (.bool r) => some (.bool r, EqOk P t (.agg a) (.agg b) r ∧ P.eqGuardType P.depth t = false)
    | .neq, some (.bool r) => some (.bool (!r), EqOk P t (.agg a) (.agg b) r ∧ P.eqGuardType P.depth t = false)
    | _, _ => none
  | _, _ => none

section
variable {P : Program}

theorem inR_le {k : IntKind} {a b : Int} (h : InR k a) (h0 : 0 ≤ a) (hb : 0 < b) : InR k (a / b) := by
  have h1 : 0 ≤ a / b := Int.ediv_nonneg h0 (by omega)
  have h2 : a / b ≤ a := Int.ediv_le_self b h0
  cases k <;> simp only [InR] at h ⊢ <;> omega

theorem evBin_ok {op : BinOp} {t : TypeId} {x y : Operand} {a b v : Value} {p : Prop} {orc : Option Value} (h : evBin P op t a b orc = some (v, p)) (hp : p) (w : World) :
    (do eqGuard op t x y a b; binOp op t a b : Sem Value).run P w = .ok v w := by
  unfold evBin at h
  split at h
  · rename_i k a k' b
    split at h
    · rename_i u
      simp only [Option.some.injEq, Prod.mk.injEq] at h
      obtain ⟨rfl, rfl⟩ := h
      have hg : (eqGuard .shr t x y (.int k a) (.int k' b)).run P w = .ok () w := by
        unfold eqGuard; split <;> rfl
      rw [Sem.run_bind, hg]
      simp only [Result.andThen, binOp, Op.shift]
      rw [if_neg (by omega), hp.2]
      rfl
    split at h
    · rename_i hk
      subst hk
      have hg : (eqGuard op t x y (.int k a) (.int k b)).run P w = .ok () w := by
        unfold eqGuard; split <;> rfl
      rw [Sem.run_bind, hg]
      simp only [Result.andThen]
      cases op <;> simp only [Option.some.injEq, Prod.mk.injEq, reduceCtorEq] at h
      all_goals (obtain ⟨rfl, rfl⟩ := h)
      all_goals simp only [binOp, ne_eq, not_true_eq_false, if_false, Op.intArith, Op.intDiv, Op.intCmp]
      case add => rw [hp.wrap]; rfl
      case sub => rw [hp.wrap]; rfl
      case mul => rw [hp.wrap]; rfl
      case quo =>
        obtain ⟨h0, h1, h2⟩ := hp
        rw [if_neg (by omega), Int.tdiv_eq_ediv_of_nonneg h0, (inR_le h2 h0 h1).wrap]; rfl
      case rem =>
        obtain ⟨h0, h1⟩ := hp
        rw [if_neg (by omega), Int.tmod_eq_emod_of_nonneg h0]; rfl
      case eql => simp [pure]; rfl
      case neq => simp [pure]; rfl
      all_goals rfl
    · cases h
  · rename_i a b
    have hg : (eqGuard op t x y (.string a) (.string b)).run P w = .ok () w := by
      unfold eqGuard; split <;> rfl
    rw [Sem.run_bind, hg]
    simp only [Result.andThen]
    cases op <;> simp only [Option.some.injEq, Prod.mk.injEq, reduceCtorEq] at h
    all_goals (obtain ⟨rfl, rfl⟩ := h)
    all_goals simp only [binOp, Op.stringOp]
    case add =>
      rw [if_neg (by have : IntKind.max .i64 = 9223372036854775807 := by decide
                     omega)]
      rfl
    all_goals rfl
  · rename_i a b
    have hg : (eqGuard op t x y (.bool a) (.bool b)).run P w = .ok () w := by
      unfold eqGuard; split <;> rfl
    rw [Sem.run_bind, hg]
    simp only [Result.andThen]
    cases op <;> simp only [Option.some.injEq, Prod.mk.injEq, reduceCtorEq] at h
    all_goals (obtain ⟨rfl, rfl⟩ := h)
    all_goals
      simp only [binOp, Sem.run_bind]
      rw [show (Op.equal t (.bool a) (.bool b)).run P w = .ok (a == b) w from run_equal_bool w t a b hp]
      rfl
  · rename_i a b
    have hg : P.eqGuardType P.depth t = false → (eqGuard op t x y (.agg a) (.agg b)).run P w = .ok () w := by
      intro he
      cases op <;> simp [eqGuard, program, Sem.run, he, Result.andThen]
    split at h
    · simp only [Option.some.injEq, Prod.mk.injEq] at h
      obtain ⟨rfl, rfl⟩ := h
      rw [Sem.run_bind, hg hp.2]
      simp only [Result.andThen, binOp, Sem.run_bind, hp.1 w]
      rfl
    · simp only [Option.some.injEq, Prod.mk.injEq] at h
      obtain ⟨rfl, rfl⟩ := h
      rw [Sem.run_bind, hg hp.2]
      simp only [Result.andThen, binOp, Sem.run_bind, hp.1 w]
      rfl
    · cases h
  · cases h

/-- What an operation yields: its value, and what is asked for that. 'g': the operands' values, as far as they are known. 'orc': the value, where it is not computed from them. -/
def evOp (P : Program) (C : World → Prop) (g : Operand → Option Value) (op : Op) (orc : Option Value) : Option (Value × Prop) :=
  match op with
  | .move x => (g x).map fun v => (v, True)
  | .assign x => (g x).map fun v => (v, True)
  | .unOp .not _ x => match g x with | some (.bool b) => some (.bool (!b), True) | _ => none
  | .extract x i => match g x with | some (.tuple vs) => (vs[i]?).map fun v => (v, True) | _ => none
  | .nilCheck x => match g x with | some (.pointer (some a)) => some (.pointer (some a), True) | _ => none
  | .binOp o t x y _ => match g x, g y with | some a, some b => evBin P o t a b orc | _, _ => none
  | .convert s d x => match P.underlying s, P.underlying d with
    | some (.int _), some (.int k) => match g x with | some (.int _ n) => some (.int k n, InR k n) | _ => none
    | some (.slice _), some .string => match g x, orc with | some v, some u => some (u, ∀ w, C w → (convert s d v).run P w = .ok u w) | _, _ => none
    | _, _ => none
  | .index t x i => match P.underlying t, g x, g i with | some .string, some (.string s), some (.int _ n) => some (.int .u8 (StrAt s n), 0 ≤ n ∧ n < (s.size : Int)) | _, _, _ => none
  | .indexAddr t x i => match P.underlying t, g x, g i with | some (.slice e), some v, some (.int _ n) => some (.pointer (some ⟨hdB v, hdO v + n.toNat * P.cellsOf e, none⟩), (P.info? e).isSome = true ∧ IdxOk v n) | _, _, _ => none
  | .fieldAddr t x f => match P.underlying t, g x with
    | some (.struct fs), some (.pointer (some ⟨b, o, none⟩)) => match fs[f]? with
      | some fd => some (.pointer (some ⟨b, o + fd.offset, none⟩), 0 < P.cellsOf fd.type)
      | none => none
    | _, _ => none
  | .load t x => match P.underlying t, g x, orc with
    | some (.struct _), some (.pointer (some ⟨b, o, none⟩)), some (.agg us) => some (.agg us, (P.info? t).isSome = true ∧ RowOk C b o (P.cellsOf t) us)
    | some (.struct _), _, _ => none
    | some (.array _ _), _, _ => none
    | some _, some (.pointer (some ⟨b, o, none⟩)), some u => some (u, CellOk C b o u)
    | _, _, _ => none
  | .field t x f => match P.underlying t, g x with
    | some (.struct fs), some (.agg cs) => match fs[f]? with
      | some fd => match P.underlying fd.type with
        | some (.struct _) => some (.agg (cs.extract fd.offset (fd.offset + P.cellsOf fd.type)), (P.info? fd.type).isSome = true)
        | some (.array _ _) => none
        | some _ => (cs[fd.offset]?).map fun v => (v, True)
        | none => none
      | none => none
    | _, _ => none
  | .build t ps => match ps.toList.mapM (fun x => (g x.2).map fun v => (x.1, v)), orc with
    | some vs, some v => some (v, ∀ w, (Instr.build t vs.toArray).run P w = .ok v w)
    | _, _ => none
  | .slice t x lo hi none => match g x, lo.map g, hi.map g, orc with
    | some v, some (some l), some (some h), some u => some (u, ∀ w, (Instr.sliceAt t v (some l) (some h) none).run P w = .ok u w)
    | some v, some (some l), none, some u => some (u, ∀ w, (Instr.sliceAt t v (some l) none none).run P w = .ok u w)
    | some v, none, some (some h), some u => some (u, ∀ w, (Instr.sliceAt t v none (some h) none).run P w = .ok u w)
    | some v, none, none, some u => some (u, ∀ w, (Instr.sliceAt t v none none none).run P w = .ok u w)
    | _, _, _, _ => none
  | .lookup t m k ok => match g m, g k, orc with
    | some vm, some vk, some u => some (u, ∀ w, C w → (Instr.lookup t vm vk ok).run P w = .ok u w)
    | _, _, _ => none
  | .call c => match c.callee, c.args.toList.map g with
    | .builtin .max, vs => match vs.mapM id, orc with | some us, some v => some (v, ∀ ty w, (Builtin.max_ c.argTypes ty us.toArray).run P w = .ok v w) | _, _ => none
    | .builtin .min, vs => match vs.mapM id, orc with | some us, some v => some (v, ∀ ty w, (Builtin.min_ c.argTypes ty us.toArray).run P w = .ok v w) | _, _ => none
    | .builtin .len, [some v] => match (c.argTypes[0]?).bind P.underlying with
      | some .string => match v with | .string s => some (.int .i64 s.size, True) | _ => none
      | some (.slice _) => match orc with | some (.int .i64 n) => some (.int .i64 n, LenOk v n) | _ => none
      | _ => none
    | .value x, vs => match g x, vs.mapM id, orc with | some (.func (.func f) first cap), some us, some v => some (v, Callable P f ∧ CallOk P C f (first ++ us.toArray ++ cap) v) | _, _, _ => none
    | _, _ => none
  | _ => none

theorem run_fieldPlace {fd : Field} {b f : Nat} (w : World) (h0 : 0 < P.cellsOf fd.type) : (fieldPlace ⟨b, f, none⟩ fd).run P w = .ok (⟨b, f + fd.offset, none⟩ : Addr) w := by
  have hi : ∃ i, P.info? fd.type = some i := by
    cases hh : P.info? fd.type with
    | none => simp [Program.cellsOf, hh] at h0
    | some i => exact ⟨i, rfl⟩
  obtain ⟨i, hi⟩ := hi
  have hs : i.size ≠ 0 := by simp [Program.cellsOf, hi] at h0; omega
  have hadd : (⟨b, f, none⟩ : Addr).add fd.offset = ⟨b, f + fd.offset, none⟩ := by unfold Addr.add; split <;> simp_all
  simp [fieldPlace, sizeOf, typeInfo, program, Sem.run, hi, hs, hadd]

theorem run_loadCellsFrom (w : World) (b o : Nat) (us : Array Value) (n : Nat) (hn : us.size = n) (h : ∀ j, j < n → w.cell? ⟨b, o + j, none⟩ = us[j]?) :
    ∀ k i (acc : Array Value), i + k = n → acc = us.extract 0 i → (loadCellsFrom ⟨b, o, none⟩ i k acc).run P w = .ok us w := by
  intro k
  induction k with
  | zero =>
    intro i acc hi hacc
    subst hacc
    have : i = us.size := by omega
    subst this
    simp [loadCellsFrom]
  | succ k ih =>
    intro i acc hi hacc
    have hc := h i (by omega)
    have hadd : (⟨b, o, none⟩ : Addr).add i = ⟨b, o + i, none⟩ := by unfold Addr.add; split <;> simp_all
    have hlt : i < us.size := by omega
    rw [Array.getElem?_eq_getElem hlt] at hc
    simp only [loadCellsFrom, load, Sem.run_bind, hadd]
    rw [show (Sem.load .plain ⟨b, o + i, none⟩ Sem.pure : Sem Value).run P w = .ok us[i] w from by simp [Sem.run, hc]]
    simp only [Result.andThen]
    refine ih (i + 1) _ (by omega) ?_
    subst hacc
    simp

theorem evOp_len {C : World → Prop} {t : TypeId} {b o : Nat} {us : Array Value} {d : TypeDesc} (w : World) (hw : C w) (hu : P.underlying t = some d) (hd : ∃ fs, d = .struct fs) (hi : (P.info? t).isSome = true) (hr : RowOk C b o (P.cellsOf t) us) :
    (Instr.loadAt t (.pointer (some ⟨b, o, none⟩))).run P w = .ok (.agg us) w := by
  obtain ⟨fs, rfl⟩ := hd
  obtain ⟨i, hi⟩ := Option.isSome_iff_exists.1 hi
  have := run_loadCellsFrom (P := P) w b o us (P.cellsOf t) hr.1 (hr.2 w hw) (P.cellsOf t) 0 #[] (by omega) (by simp)
  simp [Instr.loadAt, Instr.sureAddr, loadVar, isAgg, run_underlying hu, run_sizeOf w hi, loadCells, this]

theorem load_one {t : TypeId} {b o : Nat} {d : TypeDesc} {u : Value} (w : World) (hu : P.underlying t = some d) (hd1 : ∀ fs, d = .struct fs → False) (hd2 : ∀ n e, d = .array n e → False) (hc : w.cell? ⟨b, o, none⟩ = some u) :
    (Instr.loadAt t (.pointer (some ⟨b, o, none⟩))).run P w = .ok u w := by
  cases d <;> first | exact (hd1 _ rfl).elim | exact (hd2 _ _ rfl).elim | simp [Instr.loadAt, Instr.sureAddr, loadVar, isAgg, run_underlying hu, load, Sem.run, hc]

theorem quiet_value {C : World → Prop} {v : Value} {w : World} {s : Sem Value} (h : s.run P w = .ok v w) : Oper.quietUpon P C w v ((do pure (.value (← s)) : Sem Next).run P w) := by
  rw [Sem.run_bind, h]
  exact ⟨rfl, rfl⟩

theorem quiet_value' {C : World → Prop} {v : Value} {w : World} {s : Sem Value} (h : s.run P w = .ok v w) : Oper.quietUpon P C w v ((s.run P w).andThen fun a w' => .ok (.value a) w') := by
  rw [h]
  exact ⟨rfl, rfl⟩

theorem args_of {g : Operand → Option Value} {ρ : Operand → Value} (hg : ∀ x u, g x = some u → ρ x = u) : ∀ (l : List Operand) (us : List Value), (l.map g).mapM id = some us → l.map ρ = us
  | [], us, h => by simp at h; simp [h]
  | x :: l, us, h => by
    simp only [List.map_cons, List.mapM_cons, id_eq, Option.bind_eq_bind, Option.bind_eq_some_iff, Option.pure_def, Option.some.injEq] at h
    obtain ⟨u, hu, vs, hvs, rfl⟩ := h
    rw [List.map_cons, hg x u hu, args_of hg l vs hvs]

theorem parts_of {g : Operand → Option Value} {ρ : Operand → Value} (hg : ∀ x u, g x = some u → ρ x = u) : ∀ (l : List (Nat × Operand)) (us : List (Nat × Value)), l.mapM (fun x => (g x.2).map fun v => (x.1, v)) = some us → l.map (fun x => (x.1, ρ x.2)) = us
  | [], us, h => by simp at h; simp [h]
  | x :: l, us, h => by
    simp only [List.mapM_cons, Option.bind_eq_bind, Option.bind_eq_some_iff, Option.pure_def, Option.some.injEq, Option.map_eq_some_iff] at h
    obtain ⟨_, ⟨u, hu, rfl⟩, vs, hvs, rfl⟩ := h
    rw [List.map_cons, hg x.2 u hu, parts_of hg l vs hvs]

theorem args_arr {g : Operand → Option Value} {ρ : Operand → Value} (hg : ∀ x u, g x = some u → ρ x = u) (a : Array Operand) (us : List Value) (h : (a.toList.map g).mapM id = some us) : a.map ρ = us.toArray := by
  have := args_of hg a.toList us h
  rw [← this]
  apply Array.ext'
  rw [Array.toList_map]

set_option maxHeartbeats 1000000 in
theorem evOp_ok {C : World → Prop} {g : Operand → Option Value} {ρ : Operand → Value} {o : Oper} {orc : Option Value} {v : Value} {p : Prop} (hg : ∀ x u, g x = some u → ρ x = u)
    (h : evOp P C g o.op orc = some (v, p)) (hp : p) (w : World) (hw : C w) : Oper.quietUpon P C w v ((execOp ρ o).run P w) := by
  cases hop : o.op <;> rw [hop] at h
  all_goals first | (cases h; done) | skip
  case move x =>
    simp only [evOp] at h
    simp only [execOp, hop]
    obtain ⟨u, hu, e⟩ := Option.map_eq_some_iff.1 h
    cases e
    rw [hg x _ hu]
    exact ⟨rfl, rfl⟩
  case assign x =>
    simp only [evOp] at h
    simp only [execOp, hop]
    obtain ⟨u, hu, e⟩ := Option.map_eq_some_iff.1 h
    cases e
    rw [hg x _ hu]
    exact ⟨rfl, rfl⟩
  case unOp uo t x =>
    cases uo
    all_goals first | (cases h; done) | skip
    simp only [evOp] at h
    split at h
    · rename_i b hb
      cases h
      simp only [execOp, hop, hg x _ hb]
      exact ⟨rfl, rfl⟩
    · cases h
  case extract x i =>
    simp only [evOp] at h
    split at h
    · rename_i vs hb
      obtain ⟨u, hu, e⟩ := Option.map_eq_some_iff.1 h
      cases e
      simp only [execOp, hop, hg x _ hb]
      exact quiet_value (by simp [Instr.extract, hu])
    · cases h
  case nilCheck x =>
    simp only [evOp] at h
    split at h
    · rename_i a hb
      cases h
      simp only [execOp, hop, hg x _ hb]
      exact ⟨rfl, rfl⟩
    · cases h
  case binOp bo t x y t' =>
    simp only [evOp] at h
    split at h
    · rename_i a b ha hb
      simp only [execOp, hop, hg x _ ha, hg y _ hb]
      exact quiet_value (evBin_ok h hp w)
    · cases h
  case convert sT dT x =>
    simp only [evOp] at h
    split at h
    · rename_i k1 k h1 h2
      split at h
      · rename_i k2 n h3
        cases h
        simp only [execOp, hop, hg x _ h3]
        refine quiet_value ?_
        have : k.wrap n = n := hp.wrap
        simp [convert, run_underlying h1, run_underlying h2, Conv.intToInt, this]
      · cases h
    · split at h
      · rename_i u' h3
        cases h
        simp only [execOp, hop, hg x _ h3]
        exact quiet_value (hp w hw)
      · cases h
    · cases h
  case index t x i =>
    simp only [evOp] at h
    split at h
    · rename_i s k n h1 h2 h3
      cases h
      simp only [execOp, hop, hg x _ h2, hg i _ h3]
      refine quiet_value ?_
      obtain ⟨h0, h4⟩ := hp
      have hlt : n.toNat < s.size := by omega
      have hat : s[n.toNat]? = some (s[n.toNat]'hlt) := by simp [hlt]
      have hst : StrAt s n = ((s[n.toNat]'hlt).toNat : Int) := by
        unfold StrAt
        congr 2
        rw [Array.getD_eq_getD_getElem?, Array.getElem?_eq_getElem hlt]
        rfl
      simp [Instr.index, asIntOf, run_underlying h1, h0, hat, hst]
    · cases h
  case indexAddr t x i =>
    simp only [evOp] at h
    split at h
    · rename_i e v' k n h1 h2 h3
      cases h
      simp only [execOp, hop, hg x _ h2, hg i _ h3]
      refine quiet_value ?_
      obtain ⟨hi, b, f, m, c, rfl, h0, h4⟩ := hp
      obtain ⟨i, hi⟩ := Option.isSome_iff_exists.1 hi
      have hadd : ∀ q, (⟨b, f, none⟩ : Addr).add q = ⟨b, f + q, none⟩ := by intro q; unfold Addr.add; split <;> simp_all
      simp [Instr.indexAt, asIntOf, run_underlying h1, h0, h4, run_sizeOf w hi, hadd, hdB, hdO]
    · cases h
  case fieldAddr t x f =>
    simp only [evOp] at h
    split at h
    · rename_i fs b q h1 h2
      split at h
      · rename_i fd hfd
        cases h
        simp only [execOp, hop, hg x _ h2]
        refine quiet_value ?_
        simp [Instr.fieldAt, run_underlying h1, hfd, Instr.sureAddr, run_fieldPlace w hp]
      · cases h
    · cases h
  case load t x =>
    simp only [evOp] at h
    split at h
    · rename_i fs b q us h1 h2
      cases h
      simp only [execOp, hop, hg x _ h2]
      exact quiet_value (evOp_len w hw h1 ⟨_, rfl⟩ hp.1 hp.2)
    · cases h
    · cases h
    · rename_i d b q u hn1 hn2 h1 h2
      cases h
      simp only [execOp, hop, hg x _ h2]
      exact quiet_value (load_one w h1 hn1 hn2 (hp w hw))
    · cases h
  case field t x f =>
    simp only [evOp] at h
    split at h
    · rename_i fs cs h1 h2
      split at h
      · rename_i fd hfd
        split at h
        · rename_i fs' h3
          cases h
          simp only [execOp, hop, hg x _ h2]
          refine quiet_value ?_
          obtain ⟨i, hi⟩ := Option.isSome_iff_exists.1 hp
          simp [Instr.field, run_underlying h1, hfd, asAgg, part, isAgg, run_underlying h3, run_sizeOf w hi]
        · cases h
        · rename_i d hn1 hn2 h3
          obtain ⟨u, hu, e⟩ := Option.map_eq_some_iff.1 h
          cases e
          simp only [execOp, hop, hg x _ h2]
          refine quiet_value ?_
          have hag : (isAgg fd.type).run P w = .ok false w := by
            cases d <;> first | exact (hn1 _ rfl).elim | exact (hn2 _ _ rfl).elim | simp [isAgg, run_underlying h3]
          simp [Instr.field, run_underlying h1, hfd, asAgg, part, hag, hu]
        · cases h
      · cases h
    · cases h
  case build t ps =>
    simp only [evOp] at h
    split at h
    · rename_i vs v' hvs
      cases h
      have e : ps.map (fun x => (x.1, ρ x.2)) = vs.toArray := by
        have := parts_of hg ps.toList vs hvs
        rw [← this]
        apply Array.ext'
        rw [Array.toList_map]
      simp only [execOp, hop]
      refine quiet_value ?_
      have := hp w
      rw [← e] at this
      exact this
    · cases h
  case slice t x lo hi mx =>
    cases mx with
    | some m => simp only [evOp] at h; cases h
    | none =>
      simp only [evOp] at h
      simp only [execOp, hop]
      split at h
      · rename_i v' l hh u h1 h2 h3
        cases h
        obtain ⟨lx, rfl, g2⟩ := Option.map_eq_some_iff.1 h2
        obtain ⟨hx, rfl, g3⟩ := Option.map_eq_some_iff.1 h3
        refine quiet_value ?_
        simp only [Option.map_some, Option.map_none, hg _ _ h1, hg _ _ g2, hg _ _ g3]
        exact hp w
      · rename_i v' l u h1 h2 h3
        cases h
        obtain ⟨lx, rfl, g2⟩ := Option.map_eq_some_iff.1 h2
        cases Option.map_eq_none_iff.1 h3
        refine quiet_value ?_
        simp only [Option.map_some, Option.map_none, hg _ _ h1, hg _ _ g2]
        exact hp w
      · rename_i v' hh u h1 h2 h3
        cases h
        obtain ⟨hx, rfl, g3⟩ := Option.map_eq_some_iff.1 h3
        cases Option.map_eq_none_iff.1 h2
        refine quiet_value ?_
        simp only [Option.map_some, Option.map_none, hg _ _ h1, hg _ _ g3]
        exact hp w
      · rename_i v' u h1 h2 h3
        cases h
        cases Option.map_eq_none_iff.1 h2
        cases Option.map_eq_none_iff.1 h3
        refine quiet_value ?_
        simp only [Option.map_some, Option.map_none, hg _ _ h1]
        exact hp w
      · cases h
  case lookup t m k ok =>
    simp only [evOp] at h
    split at h
    · rename_i vm vk u h1 h2
      cases h
      simp only [execOp, hop, hg _ _ h1, hg _ _ h2]
      exact quiet_value (hp w hw)
    · cases h
  case call c =>
    simp only [evOp] at h
    split at h
    · rename_i vs hc
      split at h
      · rename_i us v' hus
        cases h
        have ha := args_arr hg c.args us hus
        simp only [execOp, hop, resolve, hc, Sem.run_bind, Sem.run_pure, Result.andThen_ok, ha, invoke, builtin]
        exact quiet_value' (hp _ w)
      · cases h
    · rename_i vs hc
      split at h
      · rename_i us v' hus
        cases h
        have ha := args_arr hg c.args us hus
        simp only [execOp, hop, resolve, hc, Sem.run_bind, Sem.run_pure, Result.andThen_ok, ha, invoke, builtin]
        exact quiet_value' (hp _ w)
      · cases h
    · rename_i v' hc hl
      split at h
      · rename_i hu
        split at h
        · rename_i s
          cases h
          obtain ⟨t, ht0, ht1⟩ := Option.bind_eq_some_iff.1 hu
          have ha := args_arr hg c.args [.string s] (by rw [hl]; rfl)
          simp only [execOp, hop, resolve, hc, Sem.run_bind, Sem.run_pure, Result.andThen_ok, ha, invoke, builtin]
          refine quiet_value' (s := Builtin.len_ c.argTypes o.type #[.string s]) ?_
          simp [Builtin.len_, ht0, run_underlying ht1, goInt]
        · cases h
      · rename_i e hu
        split at h
        · rename_i n
          cases h
          obtain ⟨t, ht0, ht1⟩ := Option.bind_eq_some_iff.1 hu
          obtain ⟨q, m, cp, rfl, rfl⟩ := hp
          have ha := args_arr hg c.args [.slice q m cp] (by rw [hl]; rfl)
          simp only [execOp, hop, resolve, hc, Sem.run_bind, Sem.run_pure, Result.andThen_ok, ha, invoke, builtin]
          refine quiet_value' (s := Builtin.len_ c.argTypes o.type #[.slice q m cp]) ?_
          simp [Builtin.len_, ht0, run_underlying ht1, goInt]
        · cases h
      · cases h
    · rename_i x vs hc
      split at h
      · rename_i f first cap us v' hx hus
        cases h
        obtain ⟨⟨fn, hf, hn, hb⟩, hcall⟩ := hp
        have ha := args_arr hg c.args us hus
        have e : (execOp ρ o).run P w = .ok (.enter f (first ++ us.toArray ++ cap)) w := by
          have hn' : fn.name ≠ "runtime.NumGoroutine" := by simpa using hn
          have hb' : fn.body ≠ none := by intro e; rw [e] at hb; cases hb
          simp [execOp, hop, resolve, hc, ha, hg _ _ hx, Deferred.ofValue, invoke, callFunc, program, Sem.run, hf, hn', hb']
        rw [e]
        exact ⟨rfl, hcall w hw⟩
      · cases h
    · cases h
end
end Go.Proofs.Ytbdgelipabndaaa
