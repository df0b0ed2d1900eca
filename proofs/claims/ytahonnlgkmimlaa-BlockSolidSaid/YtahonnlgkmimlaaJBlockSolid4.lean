/-
 Texts joined by program: VI1, VI2, VJ1, VJ, VJ2, VJ3, VJ4, VJ5, VK, VL, VM.
-/
import Derived.Deep.AppendSrc
import Derived.Laws.MakeOwn
import Derived.Laws.Slices
import Derived.Test.YtahonnlgkmimlaaJBlockSolid3
set_option linter.unusedSimpArgs false
set_option linter.unusedVariables false
set_option maxRecDepth 100000
set_option maxHeartbeats 8000000
namespace Go.Proofs.Ytahonnlgkmimlaa
open Go.RowKit
section
variable {P : Program} {w w' : World} {t tx ty e : TypeId} {size bytes : Nat} {v : Value} {n : Nat} {xs : List Value}
theorem take_drop_put {α : Type} (cur us : List α) (a c n : Nat) (h : a + n ≤ cur.length) (hc : c + us.length ≤ n) :
   ((cur.take (a + c) ++ us ++ cur.drop (a + c + us.length)).drop a).take n = ((cur.drop a).take n).take c ++ us ++ ((cur.drop a).take n).drop (c + us.length) := by
 apply List.ext_getElem?
 intro j
 simp only [List.getElem?_take, List.getElem?_drop, List.getElem?_append, List.length_append, List.length_take, List.length_drop]
 repeat' split
 all_goals first | rfl | omega | (congr 1; omega) | (exfalso; omega) | (symm; apply List.getElem?_eq_none; omega) | (apply List.getElem?_eq_none; omega)
theorem push_hd (E : Elem P t e size bytes) (hd : HdAt w e size v n xs) {x : Value} {m : Nat} {news : List Value} (hs : Src P size tx x m news w) (h63 : n + m ≤ maxLen) (hbytes : (n + m) * bytes ≤ 140737488355328) :
   ∃ v' w', (Builtin.append_ #[t, tx] ty #[v, x]).run P w = .ok v' w' ∧ HdAt w' e size v' (n + m) (xs ++ news) ∧ w.grownBy w' v.ownBlock ∧ (∀ b, v'.ownBlock = some b → v.ownBlock = some b ∨ (w.heap.size ≤ b ∧ b < w'.heap.size)) := by
 obtain ⟨i, z, hi, hz, hsize, hby, hzs⟩ := E.info
 subst hsize
 subst hby
 have hlen : (xs ++ news).length = (n + m) * i.size := by rw [List.length_append, hd.1, hs.newsLen, Nat.add_mul]
 have h63' : n + m ≤ 9223372036854775807 := by simp only [maxLen] at h63; omega
 have grown : ∀ (old : Nat), old < n + m → ∀ row : Option Nat,
     HdAt (w.drew.alloc (.cells ((xs ++ news).toArray ++ Builtin.zeroCells z.cells (grownCap w (n + m) old e - (n + m))) e)) e i.size (.slice (some ⟨w.heap.size, 0, none⟩) (n + m) (grownCap w (n + m) old e)) (n + m) (xs ++ news) ∧
     w.grownBy (w.drew.alloc (.cells ((xs ++ news).toArray ++ Builtin.zeroCells z.cells (grownCap w (n + m) old e - (n + m))) e)) row := by
   intro old ho row
   have hge := grownCap_ge w (n + m) old e
   have hcm : grownCap w (n + m) old e ≤ maxLen := grownCap_le_maxLen w (n + m) old e h63
   refine ⟨⟨hlen, .inr ⟨w.heap.size, 0, _, _, by rw [Nat.zero_mul], heap_alloc_new w.drew _, hge, hcm, ?_, ?_⟩⟩, ⟨rfl, rfl, rfl, by simp, fun k hk _ => heap_alloc_old w.drew _ hk⟩⟩
   · rw [Array.size_append, List.size_toArray, size_zeroCells, hzs, hlen, ← Nat.add_mul]
     exact Nat.mul_le_mul_right _ (by omega)
   rw [Nat.zero_mul, List.drop_zero, Array.toList_append, ← hlen]
   exact List.take_left
 rcases hd.2 with ⟨rfl, rfl⟩ | ⟨g, d, cap, cur, rfl, hg, hnc, hcm, hcs, htake⟩
 · have hx : xs = [] := List.eq_nil_of_length_eq_zero (by simpa using hd.1)
   subst hx
   by_cases hm : m = 0
   · subst hm
     have hn : news = [] := List.eq_nil_of_length_eq_zero (by simpa using hs.newsLen)
     subst hn
     refine ⟨.slice none 0 0, w, ?_, HdAt.nil w e i.size, ⟨rfl, rfl, rfl, Nat.le_refl _, fun _ _ _ => rfl⟩, fun b q => by cases q⟩
     have hc := hs.cells
     rcases hs.kind with ⟨e', hk⟩ | hk <;> simp [Builtin.append_, run_underlying E.under, run_underlying hk, sizeOf, typeInfo, hi, hs.len, hc]
   have hr := run_append_grow_src (P := P) w t tx ty e i z E.under hi hz none 0 0 [] (run_firstCells_none w.drew i.size 0 0 0) x m news hs (by omega) (by omega) (growslice_fits (by omega) hbytes)
   have hgr := grown 0 (by omega) none
   rw [List.nil_append] at hgr ⊢
   exact ⟨_, _, hr, hgr.1, hgr.2, fun b q => by cases q; exact .inr ⟨Nat.le_refl _, by simp⟩⟩
 by_cases hroom : n + m ≤ cap
 · have hfit : d * i.size + n * i.size + news.length ≤ cur.size := by
     rw [hs.newsLen, Nat.add_assoc, ← Nat.add_mul, ← Nat.add_mul]
     exact Nat.le_trans (Nat.mul_le_mul_right _ (by omega)) hcs
   have hst := run_storeCells_at P g (d * i.size + n * i.size) e news 0 cur w hg (by simpa using hfit) hs.one
   simp only [Nat.add_zero] at hst
   have hr : (Builtin.append_ #[t, tx] ty #[.slice (some ⟨g, d * i.size, none⟩) n cap, x]).run P w = .ok (.slice (some ⟨g, d * i.size, none⟩) (n + m) cap) (w.setRow g (cur.toList.take (d * i.size + n * i.size) ++ news ++ cur.toList.drop (d * i.size + n * i.size + news.length)).toArray) := by
     rcases hs.kind with ⟨e', hk⟩ | hk <;> simp [Builtin.append_, run_underlying E.under, run_underlying hk, sizeOf, typeInfo, hi, hs.len, hroom, hs.cells, Addr.add_lit, hst]
   refine ⟨_, _, hr, ⟨hlen, .inr ⟨g, d, cap, _, rfl, setRow_heap w g cur _ e _ hg, hroom, hcm, ?_, ?_⟩⟩, ⟨rfl, rfl, rfl, by simp, fun k _ hk => setRow_other w g k _ (fun e => hk (by simp [Value.ownBlock, e]))⟩, fun b q => .inl q⟩
   · simp only [List.size_toArray, List.length_append, List.length_take, List.length_drop, Array.length_toList]
     omega
   have := take_drop_put cur.toList news (d * i.size) (n * i.size) ((n + m) * i.size) (by rw [Array.length_toList, ← Nat.add_mul]; exact Nat.le_trans (Nat.mul_le_mul_right _ (by omega)) hcs) (by rw [hs.newsLen, ← Nat.add_mul]; exact Nat.le_refl _)
   have e1 : ((cur.toList.drop (d * i.size)).take ((n + m) * i.size)).drop (n * i.size + news.length) = [] := List.drop_of_length_le (by rw [List.length_take, hs.newsLen, ← Nat.add_mul]; exact Nat.min_le_left _ _)
   rw [this, e1, List.append_nil, List.take_take, Nat.min_eq_left (by rw [Nat.add_mul]; omega), htake]
 have hold : (Builtin.firstCells i.size n (.slice (some ⟨g, d * i.size, none⟩) n cap)).run P w.drew = .ok xs.toArray w.drew := by
   refine run_firstCells_some w.drew i.size n ⟨g, d * i.size, none⟩ n cap xs hd.1 fun j u hu => ?_
   have this : w.cell? ⟨g, d * i.size + j, none⟩ = some u := hd.cell hu
   have hadd : (⟨g, d * i.size, none⟩ : Addr).add j = ⟨g, d * i.size + j, none⟩ := Addr.add_lit _ _ _
   rw [hadd]
   simpa using this
 have hr := run_append_grow_src (P := P) w t tx ty e i z E.under hi hz (some ⟨g, d * i.size, none⟩) n cap xs hold x m news hs (by omega) (by omega) (growslice_fits (by omega) hbytes)
 have hgr := grown cap (by omega) (Value.ownBlock (.slice (some ⟨g, d * i.size, none⟩) n cap))
 exact ⟨_, _, hr, hgr.1, hgr.2, fun b q => by cases q; exact .inr ⟨Nat.le_refl _, by simp⟩⟩
theorem put_hd (hd : HdAt w e size v n xs) {c : Nat} {us : List Value} {u : Value} (hcu : u.cells.toList = us) (hc : c + us.length ≤ n * size) (hp : 0 < us.length) (hsz : (P.info? t).map (·.size) = some us.length) (h1 : ∀ v ∈ us, v.oneCell' = true) :
   ∃ w', (Instr.storeAt t (.pointer (some ⟨hdB v, hdO v + c, none⟩)) u).run P w = .ok () w' ∧ HdAt w' e size v n (xs.take c ++ us ++ xs.drop (c + us.length)) ∧ w.grownBy w' v.ownBlock ∧ w'.heap.size = w.heap.size := by
 rcases hd.2 with ⟨_, rfl⟩ | ⟨g, d, cap, cur, rfl, hg, hnc, hcm, hcs, htake⟩
 · rw [Nat.zero_mul] at hc; omega
 have hfit : d * size + n * size ≤ cur.size := by rw [← Nat.add_mul]; exact Nat.le_trans (Nat.mul_le_mul_right _ (by omega)) hcs
 have hrun := run_storeAt_box (P := P) w t e g (d * size + c) cur.toList us u (by simpa using hg) hcu (by have : cur.toList.length = cur.size := Array.length_toList; omega) hsz h1
 refine ⟨_, hrun, ⟨?_, .inr ⟨g, d, cap, _, rfl, setRow_heap w g cur _ e _ hg, hnc, hcm, ?_, ?_⟩⟩, ⟨rfl, rfl, rfl, by simp, fun k _ hk => setRow_other w g k _ (fun e => hk (by simp [Value.ownBlock, e]))⟩, by simp⟩
 · rw [List.length_append, List.length_append, List.length_take, List.length_drop, hd.1]; omega
 · simp only [List.size_toArray, List.length_append, List.length_take, List.length_drop, Array.length_toList]
   omega
 have := take_drop_put cur.toList us (d * size) c (n * size) (by rw [Array.length_toList]; exact hfit) hc
 rw [htake] at this
 exact this
theorem made_at (z : Array Value) (k i j : Nat) (hj : j < z.size) (hi : i < k) : (madeCells z (k * z.size))[i * z.size + j]? = z[j]? := by
 have hlt : i * z.size + j < k * z.size := by
   have := Nat.mul_le_mul_right z.size (show i + 1 ≤ k from hi)
   rw [Nat.succ_mul] at this; omega
 unfold madeCells
 rw [Array.getElem?_map, Array.getElem?_range, if_pos hlt]
 simp only [Option.map_some]
 have : (i * z.size + j) % z.size = j := by
   rw [Nat.add_comm, Nat.add_mul_mod_self_right]; exact Nat.mod_eq_of_lt hj
 rw [this, getElem!_pos z j hj, Array.getElem?_eq_getElem hj]
theorem make_hd (E : Elem P t e size bytes) {kl kc : IntKind} {l c : Int} (h0 : 0 ≤ l) (hlc : l ≤ c) (hb : bytes ≤ 1000) (hc : c ≤ 2147483647) :
   ∃ w' z, (P.info? e).bind (·.zero) = some z ∧ z.cells.size = size ∧ (Instr.makeSlice t (.int kl l) (.int kc c)).run P w = .ok (.slice (some ⟨w.heap.size, 0, none⟩) l.toNat c.toNat) w' ∧ w' = w.alloc (.cells (madeCells z.cells (c.toNat * size)) e) ∧
     HdAt w' e size (.slice (some ⟨w.heap.size, 0, none⟩) l.toNat c.toNat) l.toNat ((madeCells z.cells (c.toNat * size)).toList.take (l.toNat * size)) := by
 obtain ⟨i, z, hi, hz, hsize, hby, hzs⟩ := E.info
 subst hsize
 subst hby
 have hcb : (i.bytes : Int) * c ≤ 281474976710656 := by
   have h2 : (i.bytes : Int) * c ≤ 1000 * 2147483647 := Int.mul_le_mul (by omega) hc (by omega) (by omega)
   omega
 have hr := run_make (P := P) w t e i z E.under hi hz kl kc l c h0 hlc hcb (by omega)
 refine ⟨_, z, by rw [hi]; exact hz, hzs, hr, rfl, ⟨?_, .inr ⟨w.heap.size, 0, c.toNat, _, by rw [Nat.zero_mul], heap_alloc_new w _, by omega, by simp only [maxLen]; omega, ?_, by rw [Nat.zero_mul, List.drop_zero]⟩⟩⟩
 · rw [List.length_take, Array.length_toList, size_madeCells]
   exact Nat.min_eq_left (Nat.mul_le_mul_right _ (by omega))
 rw [size_madeCells, Nat.zero_add]; exact Nat.le_refl _
theorem made_row {S : Stab} {ty : Ty} {x0 : El ty} {z : Array Value} {l c : Nat} (hlc : l ≤ c) (hz : Data.rd S w z.toList x0) : RowRd S w ((madeCells z (c * z.size)).toList.take (l * z.size)) (List.replicate l x0) := by
 have hsz : Data.size (El ty) = z.size := by rw [← Data.len hz, Array.length_toList]
 refine ⟨?_, fun i hi => ?_⟩
 · rw [List.length_take, Array.length_toList, size_madeCells, List.length_replicate, hsz]
   exact Nat.min_eq_left (Nat.mul_le_mul_right _ hlc)
 rw [List.length_replicate] at hi
 have e : (((madeCells z (c * z.size)).toList.take (l * z.size)).drop (i * Data.size (El ty))).take (Data.size (El ty)) = z.toList := by
   apply List.ext_getElem?
   intro j
   rw [hsz, List.getElem?_take]
   by_cases hj : j < z.size
   · have hlt : i * z.size + j < l * z.size := by
       have := Nat.mul_le_mul_right z.size (show i + 1 ≤ l from hi)
       rw [Nat.succ_mul] at this; omega
     rw [if_pos hj, List.getElem?_drop, List.getElem?_take, if_pos hlt, Array.getElem?_toList, made_at z c i j hj (by omega), Array.getElem?_toList]
   rw [if_neg hj, List.getElem?_eq_none (by rw [Array.length_toList]; omega)]
 rw [e, List.getElem_replicate]
 exact hz
theorem cut_hd {p : Option Addr} {cap : Nat} (hd : HdAt w e size (.slice p n cap) n xs) {lo hi m : Nat} (h1 : lo ≤ hi) (h2 : hi ≤ n) (h3 : hi ≤ m) (h4 : m ≤ cap) :
   HdAt w e size (sliced p lo hi m size) (hi - lo) ((xs.drop (lo * size)).take ((hi - lo) * size)) ∧ ∀ b, (sliced p lo hi m size).ownBlock = some b → (Value.slice p n cap).ownBlock = some b := by
 have hlen : ((xs.drop (lo * size)).take ((hi - lo) * size)).length = (hi - lo) * size := by
   rw [List.length_take, List.length_drop, hd.1, ← Nat.sub_mul]
   exact Nat.min_eq_left (Nat.mul_le_mul_right _ (by omega))
 rcases hd.2 with ⟨hv, rfl⟩ | ⟨g, d, cap', cur, hv, hg, hnc, hcm, hcs, htake⟩
 · cases hv
   have e1 : lo = 0 := by omega
   have e2 : hi = 0 := by omega
   have e3 : m = 0 := by omega
   subst e1; subst e2; subst e3
   exact ⟨⟨hlen, .inl ⟨rfl, rfl⟩⟩, fun b q => by cases q⟩
 cases hv
 by_cases q : m = lo
 · subst q
   have e2 : hi = m := by omega
   subst e2
   refine ⟨⟨hlen, .inr ⟨g, d, 0, cur, by simp [sliced], hg, by omega, by simp [maxLen], ?_, ?_⟩⟩, fun b q => by simpa [sliced, Value.ownBlock] using q⟩
   · exact Nat.le_trans (Nat.mul_le_mul_right _ (by omega)) hcs
   simp
 refine ⟨⟨hlen, .inr ⟨g, d + lo, m - lo, cur, by simp [sliced, q, Addr.add_lit, Nat.add_mul], hg, by omega, by omega, ?_, ?_⟩⟩, fun b z => by simpa [sliced, q, Addr.add_lit, Value.ownBlock] using z⟩
 · exact Nat.le_trans (Nat.mul_le_mul_right _ (by omega)) hcs
 rw [← htake, List.drop_take, List.take_take, List.drop_drop, Nat.add_mul, Nat.min_eq_left ?_]
 rw [← Nat.sub_mul]
 exact Nat.mul_le_mul_right _ (by omega)
end
def flatTy : Ty → Bool
 | .int => true
 | .bool => true
 | .str => true
 | .pair a b => flatTy a && flatTy b
 | _ => false
structure HdI where
 t : Ty
 ie : TypeId
 l : List (El t)
 p : List Prop
 z : R2
def hdI (q : Nat) : Hx → R2 → Option HdI
 | .el i sz off, .ext (.nest q' none e t ie l) => match Nat.beq q' q && Nat.beq (tsz0 t) sz with
   | true => match (cels t (l.getD i.toNat (dfl t)))[off]? with
     | some (.l t' l') => some ⟨t', ie, l', [Bnd i l.length], .ext (.nest q (some (i.toNat * sz + off)) e t ie l)⟩
     | _ => none
   | false => none
 | .ky .int x, .ext (.nmap q' .int none t ie m) => match Nat.beq q' q with
   | true => some ⟨t, ie, (lookK (show List (KEl .int × List (El t)) from m) x).getD [], [], .ext (.nmap q .int (some x) t ie m)⟩
   | false => none
 | .ky .str x, .ext (.nmap q' .str none t ie m) => match Nat.beq q' q with
   | true => some ⟨t, ie, (lookK (show List (KEl .str × List (El t)) from m) x).getD [], [], .ext (.nmap q .str (some x) t ie m)⟩
   | false => none
 | _, _ => none
def srcT (ty : Ty) (k : List Prop → List (El ty) → Tr Out) : Sy → Tr Out
 | .one (.own q) => .res q fun y => match asList y with
   | some ⟨t', m⟩ => match castEl (t := .list t') (s := .list ty) m with
     | some m' => guardT (keepsB y || flatTy ty) (k [] m')
     | none => .fail
   | none => .fail
 | .one (.hd p q x) => .res p fun y => match hdI q x y with
   | some I => match castEl (t := .list I.t) (s := .list ty) I.l with
     | some m' => guardT (flatTy ty) (k I.p m')
     | none => .fail
   | none => .fail
 | .one (.v (.slice none 0 0)) => k [] []
 | _ => .fail
def srcTy (k : Ty → Tr Out) : Sy → Tr Out
 | .one (.own q) => .res q fun y => match asList y with
   | some ⟨t', _⟩ => k t'
   | none => .fail
 | .one (.hd p q x) => .res p fun y => match hdI q x y with
   | some I => k I.t
   | none => .fail
 | _ => .fail
def isNest : R2 → Bool
 | .ext (.nest _ none _ _ _ _) => true
 | _ => false
def appP (P : Program) (b t : Nat) (ty : Ty) (e : TypeId) (l : List (El ty)) (ps : List Prop) (old : List (Nat × Option R2)) (q : Sy) : Tr Out :=
 srcT ty (fun qs m => guardT (elemB P t e (tsz ty)) (.ret ⟨(l.length + m.length ≤ 2147483647) :: (ps ++ qs), [], .one (.own b), (b, some (.row e ty (l ++ m))) :: old⟩)) q
def appT (P : Program) (b t : Nat) (p q : Sy) : Tr Out :=
 match p with
 | .one (.v (.slice none 0 0)) => match q with
   | .one (.own i) => .res i fun y => match y with
     | .ext (.nest _ none e ty ie m) => guardT (elemB P t e (tsz ty)) (.ret ⟨[m.length ≤ 2147483647], [], .one (.own b), [(b, some (.ext (.nest b none e ty ie m))), (i, none)]⟩)
     | _ => srcTy (fun ty => appP P b t ty (P.elem t) [] [] [] q) q
   | q => srcTy (fun ty => appP P b t ty (P.elem t) [] [] [] q) q
 | .one (.own j) => .res j fun x => match x with
   | .row e ty l => appP P b t ty e l [] [(j, none)] q
   | .ext (.nest _ none e ty ie l) => match q with
     | .one (.own i) => .res i fun y => match y with
       | .ext (.nest _ none _ ty' ie' m) => match castEl (t := .list ty') (s := .list ty) m with
         | some m' => guardT (elemB P t e (tsz ty) && (Nat.beq ie' ie && !Nat.beq j i)) (.ret ⟨[l.length + (show List (El ty) from m').length ≤ 2147483647], [], .one (.own b), [(b, some (.ext (.nest b none e ty ie (l ++ (show List (El ty) from m'))))), (j, none), (i, none)]⟩)
         | none => .fail
       | _ => .fail
     | _ => .fail
   | _ => .fail
 | .one (.hd j qf hx) => .res j fun y => match hdI qf hx y with
   | some I => appP P b t I.t I.ie I.l I.p [(j, some I.z)] q
   | none => .fail
 | _ => .fail
def wholeAt {t' : Ty} (t : Ty) (off : Nat) (v : El t') : Option (El t) := match off with
 | 0 => castEl (t := t') (s := t) v
 | _ => none
def setAt : (t : Ty) → Nat → (t' : Ty) → El t' → El t → Option (El t)
 | .pair a b, off, t', v, x => match wholeAt (.pair a b) off v with
   | some y => some y
   | none => match Nat.blt off (tsz0 a) with
     | true => (setAt a off t' v x.1).map fun y => (y, x.2)
     | false => (setAt b (off - tsz0 a) t' v x.2).map fun y => (x.1, y)
 | t, off, t', v, _ => wholeAt t off v
def nestV (P : Program) (cell : Option Cel) (ie : TypeId) (k : (t' : Ty) → El t' → List Nat → Tr Out) : Sy → Tr Out
 | .one (.own i) => .res i fun z => match z with
   | .row ie' ty m => guardT (Nat.beq ie' ie) (k (.list ty) m [i])
   | _ => .fail
 | .one (.v (.slice none 0 0)) => match cell with
   | some (.l ty _) => k (.list ty) ([] : List (El ty)) []
   | _ => .fail
 | .one (.v (.int .i64 n)) => k .int (show Int from n) []
 | .one (.b e) => k .bool (show Bool from e.den) []
 | .one (.v (.string s)) => k .str (show ByteArray from s) []
 | _ => .fail
def holeP (h : Option Nat) (c : Nat) : Prop := match h with
 | none => True
 | some c' => c' = c
def storeElT (P : Program) (b : Nat) (t : TypeId) (j : Nat) (i : Int) (sz off : Nat) (y : Sy) : Tr Out :=
 .res j fun x => match x with
 | .row e ty l => match codeOf P 9 t with
   | some ty' => guardT (Nat.beq (tsz0 ty) sz && (Nat.beq (P.cellsOf t) (tsz0 ty') && ((P.info? t).isSome && (syCells y).all scOne)) && Nat.blt 0 (tsz0 ty')) (frz (syCells y) fun re => guardT (re.all fun p => !Nat.beq p.1 j) (gathSy ty' y fun v =>
     match setAt ty off ty' v (l.getD i.toNat (dfl ty)) with
     | some u => .ret ⟨[Bnd i l.length], [], .one (.v undef), (j, some (.row e ty (l.set i.toNat u))) :: re⟩
     | none => .fail))
   | none => .fail
 | .ext (.nest q h e ty ie l) => nestV P ((cels ty (l.getD i.toNat (dfl ty)))[off]?) ie (fun t' v ks => match setAt ty off t' v (l.getD i.toNat (dfl ty)) with
     | some u => guardT (Nat.beq (tsz0 ty) sz && (Nat.beq (P.cellsOf t) 1 && (Nat.beq (tsz0 t') 1 && ((P.info? t).isSome && ks.all fun k => !Nat.beq k j))))
       (.ret ⟨[Bnd i l.length, holeP h (i.toNat * sz + off)], [], .one (.v undef), (j, some (.ext (.nest b none e ty ie (l.set i.toNat u)))) :: (b, none) :: ks.map fun k => (k, none)⟩)
     | none => .fail) y
 | _ => .fail
def storeT2 (P : Program) (b : Nat) (t : TypeId) (p y : Sy) : Tr Out := match p with
 | .one (.el j i sz off) => storeElT P b t j i sz off y
 | p => storeT P t p y
def holeK {k : Kc} (h : Option (KEl k)) (x : KEl k) : Prop := match h with
 | none => True
 | some y => y = x
def putNT (P : Program) (b : Nat) (t : TypeId) (p q y : Sy) : Tr Out :=
 match P.underlying t, p with
 | some (.map kt et), .one (.mp j) => .res j fun r => match r with
   | .ext (.nmap _ k h ty ie m) => match keySc k q with
     | some x => guardT (kindB P kt k) (match y with
       | .one (.own i) => .res i fun z => match z with
         | .row ie' ty' l => match castEl (t := .list ty') (s := .list ty) l with
           | some l' => guardT (Nat.beq ie' ie && !Nat.beq i j) (.ret ⟨[kwf k x, holeK h x, (show List (KEl k × List (El ty)) from m).length ≤ 2147483647], [], .one (.v undef), [(j, some (.ext (.nmap b k none ty ie (putK (show List (KEl k × List (El ty)) from m) x (show List (El ty) from l'))))), (b, none), (i, none)]⟩)
           | none => .fail
         | _ => .fail
       | .one (.v (.slice none 0 0)) => .ret ⟨[kwf k x, holeK h x, (show List (KEl k × List (El ty)) from m).length ≤ 2147483647], [], .one (.v undef), [(j, some (.ext (.nmap b k none ty ie (putK (show List (KEl k × List (El ty)) from m) x [])))), (b, none)]⟩
       | _ => .fail)
     | none => .fail
   | _ => putT P t p q y
 | _, _ => .fail
def ieOf (P : Program) : Nat → TypeId → Option TypeId
 | 0, _ => none
 | k + 1, t => match P.underlying t with
   | some (.slice e) => some e
   | some (.struct fs) => fs.toList.findSome? fun f => ieOf P k f.type
   | _ => none
def makeMapT2 (P : Program) (md : Bool) (b : Nat) (t : TypeId) : Tr Out := match md with
 | false => makeMapT P b t
 | true => match P.underlying t, codeOf P 9 t with
   | some (.map kt et), some (.map k (.list ty)) => match P.underlying et with
     | some (.slice ie) => guardT (kindB P kt k) (.ret ⟨[], [], .one (.mp b), [(b, some (.ext (.nmap b k none ty ie ([] : List (KEl k × List (El ty))))))]⟩)
     | _ => .fail
   | _, _ => .fail
def flat1 : Cel → Sc → Bool
 | .l _ _, .v (.slice none 0 0) => true
 | .i _, .v (.int .i64 _) => true
 | .b _, .b _ => true
 | .s _, .v (.string _) => true
 | _, _ => false
def nestL (ie : TypeId) : List Cel → List Sc → (List Prop → List Nat → Tr Out) → Tr Out
 | [], [], k => k [] []
 | x :: cs, c :: l, k => match c with
   | .own i => match x with
     | .l t l' => .res i fun z => match z with
       | .row ie' ty m => match castEl (t := .list ty) (s := .list t) m with
         | some m' => guardT (Nat.beq ie' ie) (nestL ie cs l fun ps ks => guardT (ks.all fun q => !Nat.beq i q) (k (((show List (El t) from m') = l') :: ps) (i :: ks)))
         | none => .fail
       | _ => .fail
     | _ => .fail
   | c => guardT (flat1 x c) (nestL ie cs l k)
 | _, _, _ => .fail
def litT2 (P : Program) (md : Bool) (b t len : Nat) (is : List Nat) (ys : List Sy) : Tr Out := match md with
 | false => litT P b t len is ys
 | true => match codeOf P 9 (P.elem t), ieOf P 9 (P.elem t) with
   | some ty, some ie => guardT (rangeB 0 is && (Nat.beq is.length len && Nat.beq ys.length len && elemB P t (P.elem t) (tsz ty)) && Nat.ble len 1000)
     (gathAll ty ys fun l => nestL ie (flatC ty l) (ys.flatMap syCells) fun ps ks => .ret ⟨ps, [litHid P t len (P.elem t) (is.zip ys) (ys.flatMap syCells)], .one (.own b), (b, some (.ext (.nest b none (P.elem t) ty ie l))) :: ks.map fun k => (k, none)⟩)
   | _, _ => .fail
def capsOf : List Sy → Option (List (Nat × Nat))
 | [] => some []
 | .one (.ptr j off) :: l => (capsOf l).map ((j, off) :: ·)
 | _ => none
def intOp {α : Type 1} (C : List (Nat × Bool)) : Option Operand → (Option Int → Tr α) → Tr α
 | none, k => k none
 | some x, k => opd C x fun s => match s with
   | .one (.v (.int .i64 n)) => k (some n)
   | _ => .fail
def cutL {α : Type} (l : List α) : Option Int → Option Int → List α
 | none, none => l
 | some lo, none => l.drop lo.toNat
 | none, some hi => l.take hi.toNat
 | some lo, some hi => (l.take hi.toNat).drop lo.toNat
def cutP (n : Nat) : Option Int → Option Int → Prop
 | none, none => True
 | some lo, none => 0 ≤ lo ∧ lo ≤ (n : Int)
 | none, some hi => 0 ≤ hi ∧ hi ≤ (n : Int)
 | some lo, some hi => 0 ≤ lo ∧ lo ≤ hi ∧ hi ≤ (n : Int)
def sliceT (P : Program) (b : Nat) (t : TypeId) (lo hi : Option Int) : Sy → Tr Out
 | .one (.own j) => match P.underlying t with
   | some (.slice e) => .res j fun x => match x with
     | .row e' ty l => guardT (elemB P t e' (tsz0 ty)) (.ret ⟨[cutP l.length lo hi], [], .one (.own b), [(b, some (.row e' ty (cutL l lo hi))), (j, none)]⟩)
     | .ro ty l => guardT (elemB P t e (tsz0 ty)) (.ret ⟨[cutP l.length lo hi], [], .one (.own b), [(b, some (.ro ty (cutL l lo hi)))]⟩)
     | .ar ty l => guardT (elemB P t e (tsz0 ty)) (.ret ⟨[cutP l.length lo hi], [], .one (.own b), [(b, some (.ar ty (cutL l lo hi)))]⟩)
     | _ => .fail
   | _ => .fail
 | .one (.v (.string s)) => match P.underlying t with
   | some .string => .ret ⟨[cutP s.size lo hi], [], .one (.v (.string (s.extract (lo.getD 0).toNat (hi.getD s.size).toNat))), []⟩
   | _ => .fail
 | .one (.v (.slice none 0 0)) => match P.underlying t with
   | some (.slice e) => guardT (P.info? e).isSome (.ret ⟨[cutP 0 lo hi], [], .one (.v (.slice none 0 0)), []⟩)
   | _ => .fail
 | _ => .fail
def makeSliceT (P : Program) (b : Nat) (t : TypeId) : Sy → Sy → Tr Out
 | .one (.v (.int .i64 l)), .one (.v (.int .i64 c)) => match codeOf P 9 (P.elem t), zeroSy P (P.elem t) with
   | some ty, some z => guardT (elemB P t (P.elem t) (tsz ty)) (gathSy ty z fun x0 => .ret ⟨[0 ≤ l ∧ l ≤ c ∧ c ≤ 2147483647], [], .one (.own b), [(b, some (.row (P.elem t) ty (List.replicate l.toNat x0)))]⟩)
   | _, _ => .fail
 | _, _ => .fail
def rangeT (P : Program) (b : Nat) (t : TypeId) : Sy → Tr Out
 | .one (.mp j) => match P.underlying t with
   | some (.map kt et) => frz [.mp j] fun re => .res j fun x => match asMap x with
     | some ⟨k, ty, m⟩ => guardT (kindB P kt k && keepsB x && (re.all fun p => Nat.beq p.1 j)) (.ret ⟨[], [], .one (.ptr b 0), (b, some (.iter k ty m (fun x => (lookK (show List (KEl k × El ty) from m) x).isSome) (show List (KEl k × El ty) from m).length none)) :: re⟩)
     | none => .fail
   | _ => .fail
 | .one (.v (.map none)) => match P.underlying t, codeOf P 9 t with
   | some (.map kt et), some (.map k ty) => .ret ⟨[], [], .one (.ptr b 0), [(b, some (.iter k ty ([] : List (KEl k × El ty)) (fun _ => false) 0 none))]⟩
   | _, _ => .fail
 | _ => .fail
def keySy : (k : Kc) → KEl k → Sc
 | .int, x => .v (.int .i64 (show Int from x))
 | .str, x => .v (.string (show ByteArray from x))
def entryT (b : Nat) : Sy → Tr Out
 | .one (.ptr j 0) => .res j fun x => match x with
   | .iter k ty _ _ _ (some e) => .ret ⟨[], [], .tup [(false, [keySy k e.1]), (isPair ty, (celSc true b (cels ty e.2)).1)], (celSc true b (cels ty e.2)).2⟩
   | _ => .fail
 | _ => .fail
def opT (P : Program) (T : List (Con P)) (C : List (Nat × Bool)) (md : Bool) (b : Nat) : Op → Tr Out
 | .box t x => opd C x fun y => .ret ⟨[], [boxHid P t y (syCells y)], .one (.ptr b 0), [(b, some (.box t (syCells y)))]⟩
 | .alloc t => match P.info? t with
   | some i => match i.zero with
     | some z => .ret ⟨[], [allocHid P t (z.cells.toList.map scOf)], .one (.ptr b 0), [(b, some (.box t (z.cells.toList.map scOf)))]⟩
     | none => .fail
   | none => .fail
 | .buildSlice t len parts => opds C (parts.toList.map (·.2)) fun ys => litT2 P md b t len (parts.toList.map (·.1)) ys
 | .store t x y => opd C x fun p => opd C y fun q => storeT2 P b t p q
 | .build t parts => opds C (parts.toList.map (·.2)) fun ys => buildT P t ((parts.toList.map (·.1)).zip ys)
 | .call c => match c.callee with
   | .value x => opd C x fun p => match p with
     | .one (.clo f caps) => match T.find? (fun c => Nat.beq c.f f) with
       | some con => guardT (((P.funcs[f]?).map (fun fn => ((fn.name == "runtime.NumGoroutine") || fn.body.isNone))) == some false) (opds C c.args.toList fun ys => con.tr b caps ys)
       | none => .fail
     | _ => .fail
   | .builtin .append => match c.args.toList, c.argTypes.toList with
     | [x, y], [t, t'] => guardT (Nat.beq t t') (opd C x fun p => opd C y fun q => appT P b t p q)
     | _, _ => .fail
   | .builtin .len => match c.args.toList, c.argTypes.toList, isMapT P c.argTypes[0]? with
     | [x], [t], true => opd C x fun p => lenMT P t p
     | _, _, _ => quiet2 P C b (.call c)
   | .builtin .delete => match c.args.toList, c.argTypes.toList with
     | [x, y], [t, kt] => opd C x fun p => opd C y fun q => dropT P t kt p q
     | _, _ => .fail
   | _ => quiet2 P C b (.call c)
 | .makeMap t none => makeMapT2 P md b t
 | .makeMap t (some x) => opd C x fun p => match p with
   | .one (.v (.int _ _)) => makeMapT2 P md b t
   | _ => .fail
 | .mapUpdate t m x y => opd C m fun p => opd C x fun q => opd C y fun z => putNT P b t p q z
 | .insert t m x y => opd C m fun p => opd C x fun q => opd C y fun z => putNT P b t p q z
 | .lookup t m x ok => opd C m fun p => opd C x fun q => lookT P b t ok p q
 | .makeFunc f first caps => match f, first.toList with
   | .func f, [] => opds C caps.toList fun ys => match capsOf ys with
     | some cs => one (.clo f cs)
     | none => .fail
   | _, _ => .fail
 | .slice t x lo hi none => opd C x fun p => intOp C lo fun i => intOp C hi fun k => sliceT P b t i k p
 | .makeSlice t l c => opd C l fun p => opd C c fun q => makeSliceT P b t p q
 | .range t x => opd C x fun p => rangeT P b t p
 | .entry x => opd C x fun p => entryT b p
 | op => quiet2 P C b op
section
variable {P : Program} {o : OrgG} {n : Nat} {A A' : Asg} {S S' T : Stab} {F G : Nat → Prop} {s : Nat → Option E2} {r : Nat → Option R2} {a : Act} {w w' : World} {C : List (Nat × Bool)} {b : Nat}
theorem setM_in {re : List (Nat × Option R2)} {j : Nat} (h : ∃ x, (j, x) ∈ re) (r1 r2 : Nat → Option R2) : setM r1 re j = setM r2 re j := by
 induction re with
 | nil => obtain ⟨x, hx⟩ := h; cases hx
 | cons p re ih =>
   show updR (setM r1 re) p.1 p.2 j = updR (setM r2 re) p.1 p.2 j
   by_cases q : p.1 = j
   · subst q; rw [updR_same, updR_same]
   rw [updR_ne q, updR_ne q]
   refine ih ?_
   obtain ⟨x, hx⟩ := h
   rcases List.mem_cons.1 hx with e | e
   · rw [← e] at q; exact (q rfl).elim
   exact ⟨x, e⟩
theorem setM_out {re : List (Nat × Option R2)} {j : Nat} (h : ¬ ∃ x, (j, x) ∈ re) (r1 : Nat → Option R2) : setM r1 re j = r1 j := by
 induction re with
 | nil => rfl
 | cons p re ih =>
   show updR (setM r1 re) p.1 p.2 j = _
   rw [updR_ne fun q => h ⟨p.2, by rw [← q]; exact List.mem_cons_self⟩]
   exact ih fun ⟨x, hx⟩ => h ⟨x, List.mem_cons_of_mem _ hx⟩
theorem setM_mem {re : List (Nat × Option R2)} {j : Nat} {z : R2} (h : ∃ x, (j, x) ∈ re) (hz : setM r re j = some z) : (j, some z) ∈ re := by
 induction re with
 | nil => obtain ⟨x, hx⟩ := h; cases hx
 | cons p re ih =>
   have hz : updR (setM r re) p.1 p.2 j = some z := hz
   by_cases q : p.1 = j
   · subst q; rw [updR_same] at hz; rw [← hz]; exact List.mem_cons_self
   rw [updR_ne q] at hz
   refine List.mem_cons_of_mem _ (ih ?_ hz)
   obtain ⟨x, hx⟩ := h
   rcases List.mem_cons.1 hx with e | e
   · rw [← e] at q; exact (q rfl).elim
   exact ⟨x, e⟩
def HasK (A : Asg) (r : Nat → Option R2) (K : Nat → Prop) (c : Nat) : Prop := ∃ j x, K j ∧ r j = some x ∧ (x.den A j).has c
theorem Chg.mono {w w' : World} {H H' : Nat → Prop} (h : Chg w w' H) (k : ∀ c, H c → H' c) : Chg w w' H' := ⟨h.os, h.tape, h.output, h.size, fun c hc hn => h.block c hc fun q => hn (k c q)⟩
theorem OkF.hasK (H : OkF o n A S F s r a w) {K : Nat → Prop} {c : Nat} (h : HasK A r K c) : o.new c ∧ c < w.heap.size ∧ ¬ S c := by
 obtain ⟨j, x, _, h2, h3⟩ := h
 exact H.frm.own j _ c (show memF A r j = some _ by simp [memF, h2]) h3
theorem OkF.swap (H : OkF o n A S F s r a w) (hA : Agr F A A') {re : List (Nat × Option R2)} (K : Nat → Prop) (hK : ∀ j, K j → ∃ x, (j, x) ∈ re)
   (hc : Chg w w' (HasK A r K)) (hS : ∀ k, S k → S' k)
   (hS' : ∀ k, S' k → S k ∨ ((HasK A r K k ∨ w.heap.size ≤ k) ∧ k < w'.heap.size ∧ ∀ j z, (j, some z) ∈ re → ¬ (z.den A' j).has k))
   (hz : ∀ j z, (j, some z) ∈ re → z.all (FU F re) ∧ z.good A' ∧ isAr z = false ∧ (z.den A' j).ok S' w' ∧ ∀ c, (z.den A' j).has c → (HasK A r K c ∨ w.heap.size ≤ c) ∧ c < w'.heap.size)
   (ha : ∀ i j zi zj c, (i, some zi) ∈ re → (j, some zj) ∈ re → (zi.den A' i).has c → (zj.den A' j).has c → i = j) :
   OkF o n A' S' (FU F re) s (setM r re) a w' := by
 have H1 := H.agree hA (G := FU F re) fun j h => .inl h
 have hden : ∀ j x, r j = some x → x.den A j = x.den A' j := fun j x hx => R2.congr hA (H.rall j x hx).1 (H.rall j x hx).2.1
 have hH : ∀ c, HasK A r K c ↔ ∃ j rr, K j ∧ memF A' r j = some rr ∧ rr.has c := fun c => by
   constructor
   · rintro ⟨j, x, h1, h2, h3⟩
     exact ⟨j, _, h1, by simp [memF, h2]; rfl, by rw [← hden j x h2]; exact h3⟩
   rintro ⟨j, rr, h1, h2, h3⟩
   obtain ⟨x, hx, rfl⟩ := Option.map_eq_some_iff.1 h2
   exact ⟨j, x, h1, hx, by rw [hden j x hx]; exact h3⟩
 refine ⟨H1.size, H1.nodef, H1.env, H1.sall, fun j x hx => ?_, H1.frm.swap (N := fun j => ∃ x, (j, x) ∈ re) (K := K) (hc.mono fun c q => (hH c).1 q) hS (fun k hk => ?_) (fun j rr hj hr => ?_) (fun j rr hj hr => ?_) (fun j rr c hj hr hcc => ?_) (fun i j ri rj c hi hj ei ej q1 q2 => ?_), fun j x hx => ?_, H1.pin⟩
 · by_cases q : ∃ x, (j, x) ∈ re
   · have h2 := hz j x (setM_mem q hx)
     obtain ⟨y, hy⟩ := q
     exact ⟨.inr ⟨y, hy⟩, h2.1, h2.2.1⟩
   rw [setM_out q] at hx; exact H1.rall j x hx
 · rcases hS' k hk with q | ⟨q1, q2, q3⟩
   · exact .inl q
   refine .inr ⟨q1.imp (hH k).1 id, q2, fun j rr hj hr => ?_⟩
   obtain ⟨x, hx, rfl⟩ := Option.map_eq_some_iff.1 hr
   exact q3 j x (setM_mem hj hx)
 · refine ⟨fun q => hj (hK j q), ?_⟩
   have hr : (setM r re j).map (R2.den A' j) = some rr := hr
   rw [setM_out hj] at hr; exact hr
 · obtain ⟨x, hx, rfl⟩ := Option.map_eq_some_iff.1 hr
   exact (hz j x (setM_mem hj hx)).2.2.2.1
 · obtain ⟨x, hx, rfl⟩ := Option.map_eq_some_iff.1 hr
   obtain ⟨q1, q2⟩ := (hz j x (setM_mem hj hx)).2.2.2.2 c hcc
   exact ⟨q1.imp (hH c).1 id, q2⟩
 · obtain ⟨x, hx, rfl⟩ := Option.map_eq_some_iff.1 ei
   obtain ⟨y, hy, rfl⟩ := Option.map_eq_some_iff.1 ej
   exact ha i j x y c (setM_mem hi hx) (setM_mem hj hy) q1 q2
 by_cases q : ∃ x, (j, x) ∈ re
 · exact arOk_not (hz j x (setM_mem q hx)).2.2.1
 rw [setM_out q] at hx; exact H1.args j x hx
theorem flat_rd : ∀ {t : Ty} {cs : List Value} {x : El t}, flatTy t = true → Data.rd T w cs x → Data.rd S w' cs x
 | .int, _, _, _, h => h
 | .bool, _, _, _, h => h
 | .str, _, _, _, h => h
 | .pair p q, cs, x, hf, h => by
   have hf : (flatTy p && flatTy q) = true := hf
   rw [Bool.and_eq_true] at hf
   obtain ⟨c1, c2, rfl, h1, h2⟩ := h
   exact ⟨c1, c2, rfl, flat_rd hf.1 h1, flat_rd hf.2 h2⟩
 | .list _, _, _, hf, _ => by cases hf
 | .map _ _, _, _, hf, _ => by cases hf
 | .ptr _, _, _, hf, _ => by cases hf
theorem flat_row {t : Ty} {xs : List Value} {l : List (El t)} (hf : flatTy t = true) (h : RowRd T w xs l) : RowRd S w' xs l := ⟨h.1, fun i hi => flat_rd hf (h.2 i hi)⟩
theorem src_slice {α : Type} [Data α] {tx e' : TypeId} (hk : P.underlying tx = some (.slice e')) {v : Value} {l : List α} (h : SliceRd T w v l) : ∃ news, Src P (Data.size α) tx v l.length news w ∧ RowRd T w news l := by
 obtain ⟨p, c, rfl, h1, h2, h3⟩ := h
 rcases h3 with rfl | ⟨g, off, cur, t, fz, rfl, hg, hw, hc⟩
 · refine ⟨[], ?_, RowRd.nil _ _⟩
   cases p with
   | none => exact Src.ofNil w hk c
   | some a => exact Src.ofSlice w hk a 0 c [] (by simp) (fun j u q => by cases q) fun u q => by cases q
 have hlen : 0 < l.length * Data.size α → off + l.length * Data.size α ≤ cur.size := fun hp => by
   have hl : 0 < l.length := Nat.pos_of_ne_zero fun q => by rw [q, Nat.zero_mul] at hp; omega
   have hs : 0 < Data.size α := Nat.pos_of_ne_zero fun q => by rw [q, Nat.mul_zero] at hp; omega
   obtain ⟨cs, k1, k2⟩ := hc (l.length - 1) (by omega)
   have := k2 (Data.size α - 1) (by omega)
   rw [List.getElem?_eq_getElem (by rw [Data.len k1]; omega)] at this
   have := (Array.getElem?_eq_some_iff.1 this).1
   have e : l.length * Data.size α = (l.length - 1) * Data.size α + Data.size α := by rw [← Nat.succ_mul]; congr 1; omega
   omega
 have hR : RowRd T w ((cur.toList.drop off).take (l.length * Data.size α)) l := by
   refine ⟨?_, fun i hi => ?_⟩
   · have hcl : cur.toList.length = cur.size := Array.length_toList
     rw [List.length_take, List.length_drop, hcl]
     by_cases q : 0 < l.length * Data.size α
     · have := hlen q; omega
     omega
   obtain ⟨cs, k1, k2⟩ := hc i hi
   have e : ((((cur.toList.drop off).take (l.length * Data.size α)).drop (i * Data.size α)).take (Data.size α)) = cs := by
     apply List.ext_getElem?
     intro j
     rw [List.getElem?_take]
     split
     · rename_i hj
       have := Nat.mul_le_mul_right (Data.size α) (show i + 1 ≤ l.length from hi)
       rw [Nat.succ_mul] at this
       rw [List.getElem?_drop, List.getElem?_take, if_pos (by omega), List.getElem?_drop, Array.getElem?_toList, ← k2 j hj, Nat.add_assoc]
     rename_i hj
     rw [List.getElem?_eq_none (by rw [Data.len k1]; omega)]
   rw [e]; exact k1
 refine ⟨_, Src.ofSlice w hk ⟨g, off, none⟩ l.length c _ hR.1 (fun j u hu => ?_) hR.one, hR⟩
 rw [Addr.add_lit, cell_of_row w g _ cur t fz hw]
 rw [List.getElem?_take] at hu
 split at hu
 · rw [List.getElem?_drop, Array.getElem?_toList] at hu; exact hu
 cases hu
theorem src_hd {tx e' e : TypeId} (hk : P.underlying tx = some (.slice e')) {size : Nat} {v : Value} {m : Nat} {xs : List Value} (hd : HdAt w e size v m xs) (h1 : ∀ u ∈ xs, u.oneCell' = true) : Src P size tx v m xs w := by
 rcases hd.2 with ⟨rfl, rfl⟩ | ⟨g, d, cap, cur, rfl, hg, hnc, hcm, hcs, htake⟩
 · have : xs = [] := List.eq_nil_of_length_eq_zero (by simpa using hd.1)
   subst this
   exact Src.ofNil w hk 0
 refine Src.ofSlice w hk _ _ _ _ hd.1 (fun j u hu => ?_) h1
 rw [Addr.add_lit]
 exact hd.cell hu
theorem src_list (H : OkF o n A S F s r a w) {tx e' : TypeId} (hk : P.underlying tx = some (.slice e')) {j : Nat} {y : R2} (hj : r j = some y) {t : Ty} {m : List (El t)} (hy : asList y = some ⟨t, m⟩) (hf : keepsB y = true ∨ flatTy t = true) :
   ∃ news, Src P (Data.size (El t)) tx (A.v j) m.length news w ∧ RowRd S w news m := by
 have hok : (y.den A j).ok S w := H.frm.ok j _ (show memF A r j = some _ by simp [memF, hj])
 cases y with
 | ro t' l' => cases hy; exact src_slice hk (rd_slice hok)
 | ar t' l' =>
   cases hy
   obtain ⟨news, h1, h2⟩ := src_slice hk (rd_slice (asList_rd H hj rfl))
   rcases hf with hf | hf
   · cases hf
   exact ⟨news, h1, flat_row hf h2⟩
 | row e t' l' =>
   cases hy
   obtain ⟨xs, h1, h2⟩ := hok
   exact ⟨xs, src_hd hk h1 h2.one, h2⟩
 | ext z => cases z <;> cases hy
 | _ => cases hy
theorem hd_at (H : OkF o n A S F s r a w) {j q : Nat} {y : R2} {x : Hx} {I : HdI} (hj : r j = some y) (h : hdI q x y = some I) (hp : ∀ p ∈ I.p, p) :
   (∃ xs, HdAt w I.ie (Data.size (El I.t)) (A.f q x.lit) I.l.length xs ∧ RowRd S w xs I.l) ∧ (∀ c, (A.f q x.lit).ownBlock = some c → (y.den A j).has c) ∧
     I.z.all F ∧ I.z.good A ∧ isAr I.z = false ∧ (I.z.den A j).ok S w ∧ ∀ c, (I.z.den A j).has c → (y.den A j).has c ∧ (A.f q x.lit).ownBlock ≠ some c := by
 have hok : (y.den A j).ok S w := H.frm.ok j _ (show memF A r j = some _ by simp [memF, hj])
 have hall := (H.rall j y hj).2.1
 have nm : ∀ {k : Kc} {t : Ty} {ie : TypeId} {m : MapD k (List (El t))} {x : KEl k}, y = .ext (.nmap q k none t ie m) → (∃ xs, HdAt w ie (Data.size (El t)) (A.f q (klit k x)) ((lookK (show List (KEl k × List (El t)) from m) x).getD []).length xs ∧ RowRd S w xs ((lookK (show List (KEl k × List (El t)) from m) x).getD [])) ∧ (∀ c, (A.f q (klit k x)).ownBlock = some c → (y.den A j).has c) ∧
     F q ∧ ((R2.ext (.nmap q k (some x) t ie m)).den A j).ok S w ∧ ∀ c, ((R2.ext (.nmap q k (some x) t ie m)).den A j).has c → (y.den A j).has c ∧ (A.f q (klit k x)).ownBlock ≠ some c := by
   intro k t ie m x e
   subst e
   obtain ⟨blk, hb, N⟩ : ∃ blk, A.m j = some blk ∧ NMapAt S w blk (A.f q) none ie m := hok
   obtain ⟨zs, n1, n2, n3⟩ := N.map
   have e2 : lookK (show List (KEl k × List (El t)) from m) x = (lookK zs x).map (·.2) := by rw [n2]; exact map_lookK (fun y : Value × List (El t) => y.2) zs x
   have hO : OwnD S w ie (A.f q (klit k x)) ((lookK (show List (KEl k × List (El t)) from m) x).getD []) := by
     rw [e2]
     cases hl : lookK zs x with
     | none =>
       rw [N.non x (by rw [e2, hl]; rfl) (by simp)]
       exact OwnD.nil
     | some z =>
       obtain ⟨q1, q2⟩ := n3 _ (lookK_mem hl) (by simp)
       rw [← q1]; exact q2
   refine ⟨hO, fun c hc => .inr ⟨x, by simp, hc⟩, hall, ⟨blk, hb, ⟨zs, n1, n2, fun z hz _ => n3 z hz (by simp)⟩, fun z hz _ => N.non z hz (by simp), fun u v c _ _ => N.inj u v c (by simp) (by simp), fun u c _ => N.out u c (by simp)⟩, fun c hc => ?_⟩
   rcases hc with hc | ⟨u, hu, hc⟩
   · refine ⟨.inl hc, fun q => ?_⟩
     have hc : A.m j = some c := hc
     rw [hb] at hc; cases hc
     exact N.out x _ (by simp) q rfl
   refine ⟨.inr ⟨u, by simp, hc⟩, fun q => hu ?_⟩
   rw [N.inj u x c (by simp) (by simp) hc q]
 unfold hdI at h
 split at h
 · rename_i i sz off q' e t ie l
   split at h
   · rename_i hg
     rw [Bool.and_eq_true] at hg
     have h1 := beq_t hg.1; have h2 := beq_t hg.2
     subst h1; subst h2
     split at h
     · rename_i t' l' hc
       cases h
       obtain ⟨h0, h1⟩ : Bnd i l.length := hp _ (List.mem_singleton.2 rfl)
       have hN : NestAt S w (A.v j) (A.f q') none e t ie l := hok
       have hi : i.toNat < l.length := by omega
       have hoff : off < tsz0 t := by have := (List.getElem?_eq_some_iff.1 hc).1; rwa [cels_len0] at this
       have hfl := flatC_at (t := t) (l := l) hi hoff
       rw [hc] at hfl
       have hlt : i.toNat * tsz0 t + off < l.length * tsz0 t := by
         have := (List.getElem?_eq_some_iff.1 hfl).1
         rwa [flatC_len] at this
       obtain ⟨xs, k1, k2, k3⟩ := hN.row
       obtain ⟨k4, k5⟩ := k3 _ _ hfl (by simp)
       refine ⟨k5, fun c hcc => .inr ⟨_, hlt, by simp, hcc⟩, hall, tv, rfl, ⟨⟨xs, k1, k2, fun c x hx _ => k3 c x hx (by simp)⟩, fun c d bb h1 h2 _ _ => hN.inj c d bb h1 h2 (by simp) (by simp), fun c bb h1 _ => hN.out c bb h1 (by simp)⟩, fun c hcc => ?_⟩
       rcases hcc with hcc | ⟨d, hd1, hd2, hd3⟩
       · exact ⟨.inl hcc, fun q => hN.out _ c hlt (by simp) q hcc⟩
       refine ⟨.inr ⟨d, hd1, by simp, hd3⟩, fun q => hd2 ?_⟩
       rw [hN.inj _ d c hlt hd1 (by simp) (by simp) q hd3]
     cases h
   cases h
 · rename_i x q' t ie m
   split at h
   · rename_i hg
     have h1 := beq_t hg
     subst h1
     cases h
     obtain ⟨k1, k2, k3, k4, k5⟩ := nm (k := .int) (x := x) rfl
     exact ⟨k1, k2, k3, tv, rfl, k4, k5⟩
   cases h
 · rename_i x q' t ie m
   split at h
   · rename_i hg
     have h1 := beq_t hg
     subst h1
     cases h
     obtain ⟨k1, k2, k3, k4, k5⟩ := nm (k := .str) (x := x) rfl
     exact ⟨k1, k2, k3, tv, rfl, k4, k5⟩
   cases h
 cases h
theorem srcT_run (H : OkF o n A S F s r a w) {tx e' : TypeId} (hk : P.underlying tx = some (.slice e')) {ty : Ty} {k : List Prop → List (El ty) → Tr Out} {q : Sy} {out : Out} (h : (srcT ty k q).run s r = some out) :
   ∃ qs m, (k qs m).run s r = some out ∧ ((∀ p ∈ qs, p) → ∃ news, Src P (Data.size (El ty)) tx (q.den A) m.length news w ∧ RowRd S w news m) := by
 unfold srcT at h
 split at h
 · obtain ⟨y, hy, h⟩ := res_run h
   split at h
   · rename_i t' m ha
     split at h
     · rename_i m' hm
       obtain ⟨hg, h⟩ := guardT_run h
       obtain ⟨e, hm2⟩ := castEl_ok hm
       cases e
       have hm2 : m = m' := hm2
       subst hm2
       rw [Bool.or_eq_true] at hg
       exact ⟨[], m, h, fun _ => src_list H hk hy ha hg⟩
     cases h
   cases h
 · obtain ⟨y, hy, h⟩ := res_run h
   split at h
   · rename_i I hI
     split at h
     · rename_i m' hm
       obtain ⟨hg, h⟩ := guardT_run h
       obtain ⟨t, ie, l, ps, z⟩ := I
       obtain ⟨e, hm2⟩ := castEl_ok hm
       have e : t = ty := by injection e
       subst e
       have hm2 : l = m' := hm2
       subst hm2
       refine ⟨ps, l, h, fun hp => ?_⟩
       obtain ⟨⟨xs, k1, k2⟩, _⟩ := hd_at H hy hI hp
       exact ⟨xs, src_hd hk k1 k2.one, k2⟩
     cases h
   cases h
 · exact ⟨[], [], h, fun _ => ⟨[], Src.ofNil w hk 0, RowRd.nil _ _⟩⟩
 cases h
def OldOk (A : Asg) (S : Stab) (F : Nat → Prop) (w : World) (r : Nat → Option R2) (v : Value) : Option (Nat × Option R2) → Prop
 | none => v.ownBlock = none
 | some (j, y) => ∃ x, r j = some x ∧ (∀ c, v.ownBlock = some c → (x.den A j).has c) ∧ ∀ z, y = some z → z.all F ∧ z.good A ∧ isAr z = false ∧ (z.den A j).ok S w ∧ ∀ c, (z.den A j).has c → (x.den A j).has c ∧ v.ownBlock ≠ some c
theorem OldOk.has {v : Value} {old : Option (Nat × Option R2)} (h : OldOk A S F w r v old) {c : Nat} (hc : v.ownBlock = some c) : HasK A r (fun i => ∃ y, old = some (i, y)) c := by
 cases old with
 | none => have h : v.ownBlock = none := h; rw [h] at hc; cases hc
 | some p => obtain ⟨x, h1, h2, _⟩ := h; exact ⟨p.1, x, ⟨p.2, rfl⟩, h1, h2 c hc⟩
theorem OkF.keepS (H : OkF o n A S F s r a w) {K : Nat → Prop} (hc : Chg w w' (HasK A r K)) : Keeps S w w' := fun k hk => hc.block k (H.frm.inb k hk) fun q => (H.hasK q).2.2 hk
theorem OkF.rowTo (H : OkF o n A S F s r a w) (hF : ¬ F b) {e : TypeId} {ty : Ty} {m : List (El ty)} {v v' : Value} {xs : List Value} {old : Option (Nat × Option R2)} (hold : OldOk A S F w r v old)
   (hc : w.grownBy w' v.ownBlock) (hv : HdAt w' e (Data.size (El ty)) v' m.length xs) (hR : Keeps S w w' → RowRd S w' xs m) (hb : ∀ c, v'.ownBlock = some c → v.ownBlock = some c ∨ (w.heap.size ≤ c ∧ c < w'.heap.size)) :
   ∃ A', OkF o n A' S (FU F ((b, some (.row e ty m)) :: old.toList)) s (setM r ((b, some (.row e ty m)) :: old.toList)) a w' ∧ v' = A'.v b := by
 obtain ⟨p', c', hv', _⟩ := hv.slice
 have hag := Agr.set (A := A) hF p' m.length c' 0
 have hch : Chg w w' (HasK A r fun i => ∃ y, old = some (i, y)) := (Chg.of hc).mono fun c q => hold.has q
 have hS := H.keepS hch
 have hsub : ∀ p, p ∈ old.toList → old = some p := fun p hp => by simpa using hp
 refine ⟨A.set b p' m.length c' 0, H.swap hag (fun i => ∃ y, old = some (i, y)) (fun j ⟨y, hy⟩ => ⟨y, List.mem_cons_of_mem _ (by rw [hy]; simp)⟩) hch (fun _ h => h) (fun _ h => .inl h) (fun j z hj => ?_) (fun i j zi zj c hi hj h1 h2 => ?_), by rw [Asg.set_v]; exact hv'⟩
 · rcases List.mem_cons.1 hj with hj | hj
   · cases hj
     refine ⟨tv, tv, rfl, ?_, fun c hcc => ?_⟩
     · show OwnD S w' e (Asg.v _ b) m
       rw [Asg.set_v, ← hv']; exact ⟨xs, hv, hR hS⟩
     have hcc : (Asg.v _ b).ownBlock = some c := hcc
     rw [Asg.set_v, ← hv'] at hcc
     rcases hb c hcc with q | q
     · exact ⟨.inl (hold.has q), Nat.lt_of_lt_of_le (H.hasK (hold.has q)).2.1 hc.size⟩
     exact ⟨.inr q.1, q.2⟩
   have ho := hsub _ hj
   subst ho
   obtain ⟨x, h1, h2, h3⟩ := hold
   obtain ⟨k1, k2, k3, k4, k5⟩ := h3 z rfl
   have hFj := (H.rall j x h1).1
   have hd : z.den A j = z.den (A.set b p' m.length c' 0) j := R2.congr hag hFj k1
   rw [← hd]
   refine ⟨R2.mono (fun _ q => .inl q) k1, R2.good_congr hag k1 k2, k3, (z.den A j).keep S w w' k4 hS fun c hcc => ?_, fun c hcc => ?_⟩
   · obtain ⟨q1, q2⟩ := k5 c hcc
     exact hc.block c (H.hasK (K := fun i => i = j) ⟨j, x, rfl, h1, q1⟩).2.1 fun z => q2 z.symm
   obtain ⟨q1, q2⟩ := k5 c hcc
   have hk : HasK A r (fun i => ∃ y, some (j, some z) = some (i, y)) c := ⟨j, x, ⟨_, rfl⟩, h1, q1⟩
   exact ⟨.inl hk, Nat.lt_of_lt_of_le (H.hasK hk).2.1 hc.size⟩
 have key : ∀ j z c, (j, some z) ∈ old.toList → (z.den (A.set b p' m.length c' 0) j).has c → v'.ownBlock = some c → False := fun j z c hj h1 h2 => by
   have ho := hsub _ hj
   subst ho
   obtain ⟨x, q1, q2, q3⟩ := hold
   obtain ⟨k1, k2, k3, k4, k5⟩ := q3 z rfl
   rw [← R2.congr hag (H.rall j x q1).1 k1] at h1
   obtain ⟨k6, k7⟩ := k5 c h1
   rcases hb c h2 with q | q
   · exact k7 q
   have := (H.hasK (K := fun i => i = j) ⟨j, x, rfl, q1, k6⟩).2.1
   omega
 rcases List.mem_cons.1 hi with hi | hi <;> rcases List.mem_cons.1 hj with hj | hj
 · cases hi; cases hj; rfl
 · cases hi
   have h1 : (Asg.v _ b).ownBlock = some c := h1
   rw [Asg.set_v, ← hv'] at h1
   exact (key j zj c hj h2 h1).elim
 · cases hj
   have h2 : (Asg.v _ b).ownBlock = some c := h2
   rw [Asg.set_v, ← hv'] at h2
   exact (key i zi c hi h1 h2).elim
 have e1 := hsub _ hi
 rw [hsub _ hj] at e1
 cases e1; rfl
theorem app_gen (H : OkF o n A S F s r a w) (hF : ¬ F b) {t tx e : TypeId} {ty : Ty} {bytes : Nat} (E : Elem P t e (Data.size (El ty)) bytes) (hby : bytes ≤ 1000) {l m : List (El ty)} {v x : Value} (hd : ∃ xs, HdAt w e (Data.size (El ty)) v l.length xs ∧ RowRd S w xs l)
   {old : Option (Nat × Option R2)} (hold : OldOk A S F w r v old) (hs : ∃ news, Src P (Data.size (El ty)) tx x m.length news w ∧ RowRd S w news m) (hlen : l.length + m.length ≤ 2147483647) (rty : TypeId) :
   ∃ v' w', (Builtin.append_ #[t, tx] rty #[v, x]).run P w = .ok v' w' ∧ ∃ A', OkF o n A' S (FU F ((b, some (.row e ty (l ++ m))) :: old.toList)) s (setM r ((b, some (.row e ty (l ++ m))) :: old.toList)) a w' ∧ v' = A'.v b := by
 obtain ⟨xs, hx1, hx2⟩ := hd
 obtain ⟨news, hn1, hn2⟩ := hs
 obtain ⟨v', w', hr, k1, k2, k3⟩ := push_hd (ty := rty) E hx1 hn1 (by simp only [maxLen]; omega) (by have := Nat.mul_le_mul hlen hby; omega)
 refine ⟨v', w', hr, H.rowTo hF hold k2 (xs := xs ++ news) (by rw [List.length_append]; exact k1) (fun hS => (hx2.keep hS).append (hn2.keep hS)) k3⟩
end
section
variable {P : Program} {o : OrgG} {n : Nat} {A A' : Asg} {S S' T : Stab} {F G : Nat → Prop} {s : Nat → Option E2} {r : Nat → Option R2} {a : Act} {w w' : World} {C : List (Nat × Bool)} {b : Nat}
theorem wp_quiet {op : Oper} {v : Value} {K : Act → World → Prop} {Q : Exit → Act → World → Prop} (h : Oper.quietUpon P (· = w) w v ((execOp a.eval op).run P w)) (k : K (a.put op.dst v) w) : op.wp P a w K Q := by
 unfold Oper.wp
 generalize (execOp a.eval op).run P w = res at h
 cases res with
 | ok x w' =>
   cases x <;> first | (exact h.elim) | skip
   · obtain ⟨rfl, rfl⟩ := h; exact k
   · obtain ⟨rfl, rfl⟩ := h; exact k
   obtain ⟨rfl, h⟩ := h
   refine h.mono fun e w2 ⟨he, hw⟩ => ?_
   subst he; subst hw; exact k
 | halt x w' => exact h.elim
theorem gathSy_cells {α : Type 1} {t : Ty} {y : Sy} {k : El t → Tr α} {out : α} (hR : ReadsL T w A r (syCells y)) (h : (gathSy t y k).run s r = some out) : ∃ x : El t, Data.rd T w ((syCells y).map (Sc.den A)) x ∧ (∀ ps, y ≠ .tup ps) ∧ (k x).run s r = some out := by
 unfold gathSy at h
 split at h
 · obtain ⟨x, u, rest, hu, h1, h⟩ := gath_run t _ _ hR h
   split at h
   · rw [List.append_nil] at hu; subst hu; exact ⟨x, h1, (fun _ q => by cases q), h⟩
   cases h
 · obtain ⟨x, u, rest, hu, h1, h⟩ := gath_run t _ _ hR h
   split at h
   · rw [List.append_nil] at hu; subst hu; exact ⟨x, h1, (fun _ q => by cases q), h⟩
   cases h
 cases h
theorem gathAll_run {t : Ty} : ∀ {ys : List Sy} {k : List (El t) → Tr Out} {out : Out}, ReadsL T w A r (ys.flatMap syCells) → (gathAll t ys k).run s r = some out → ∃ l : List (El t), l.length = ys.length ∧ RowRd T w ((ys.flatMap syCells).map (Sc.den A)) l ∧ CelsOk T w ((ys.flatMap syCells).map (Sc.den A)) (flatC t l) ∧ (k l).run s r = some out
 | [], k, out, _, h => ⟨[], rfl, RowRd.nil _ _, tv, h⟩
 | y :: ys, k, out, hR, h => by
   have hR1 : ReadsL T w A r (syCells y) := fun c hc => hR c (by rw [List.flatMap_cons]; exact List.mem_append_left _ hc)
   have hR2 : ReadsL T w A r (ys.flatMap syCells) := fun c hc => hR c (by rw [List.flatMap_cons]; exact List.mem_append_right _ hc)
   obtain ⟨x, hx, _, h⟩ := gathSy_cells hR1 h
   obtain ⟨l, h1, h2, h3, h⟩ := gathAll_run hR2 h
   refine ⟨x :: l, by simp [h1], ?_, ?_, h⟩
   · rw [List.flatMap_cons, List.map_append]
     exact (RowRd.single hx).append h2
   rw [List.flatMap_cons, List.map_append]
   exact (rd_cels t hx).append h3
theorem own_new {w : World} {S : Stab} {t : Ty} {e : TypeId} {cs : List Value} {l : List (El t)} (h : RowRd S w cs l) (hS : ∀ k, S k → k < w.heap.size) (hl : l.length ≤ 2147483647) :
   Own S (w.alloc (.cells cs.toArray e)) e (.slice (some ⟨w.heap.size, 0, none⟩) l.length l.length) l := by
 refine ⟨cs, ⟨h.1, .inr ⟨w.heap.size, l.length, _, rfl, Nat.zero_le _, heap_alloc_new w _, Nat.le_refl _, by simp only [maxLen]; omega, by simpa using h.1, ?_⟩⟩, h.keep fun k hk => (below_new w _).block k (hS k hk)⟩
 simp only [List.toList_toArray]
 rw [← h.1, List.take_length]
theorem lit_step {B : Nat} (H : OkF o n A S F s r a w) (hF : ∀ j, b ≤ j → j < B → ¬ F j) {op : Oper} {t len : Nat} {parts : Array (Nat × Operand)} {ys : List Sy} {out : Out} (ho : op.op = .buildSlice t len parts) (hargs : parts.toList.map (fun p => a.eval p.2) = ys.map (Sy.den A))
   (h : (litT P b t len (parts.toList.map (·.1)) ys).run s r = some out) (hhs : ∀ h ∈ out.hs, ∀ A w, h.lhs A w = h.rhs A w) (hB : ∀ p ∈ out.re, p.1 < B)
   {K : Act → World → Prop} {Q : Exit → Act → World → Prop} (k : ∀ v w', After o n F s r a out v w' → K (a.put op.dst v) w') : op.wp P a w K Q := by
 unfold litT at h
 split at h
 · rename_i ty hty
   obtain ⟨hg, h⟩ := guardT_run h
   simp only [Bool.and_eq_true] at hg
   obtain ⟨⟨hr, ⟨hl1, hl2⟩, hel⟩, hle⟩ := hg
   have hl1 := beq_t hl1; have hl2 := beq_t hl2; have hle := Nat.le_of_ble_eq_true hle
   obtain ⟨re, hz, hlz, h⟩ := frz_run _ _ h
   obtain ⟨S', hS, H'⟩ := H.freeze hz
   obtain ⟨l, hll, hrow, _, h⟩ := gathAll_run (T := S') (frz_reads H hz hS H' hlz) h
   have e := ret_run h
   subst e
   have hrun := hhs _ (List.mem_singleton.2 rfl) A w
   simp only [litHid] at hrun
   have ep : parts.map (fun x => (x.1, a.eval x.2)) = (((parts.toList.map (·.1)).zip ys).map fun y => (y.1, y.2.den A)).toArray := by
     apply Array.ext'
     rw [Array.toList_map]
     show _ = ((parts.toList.map (·.1)).zip ys).map fun y => (y.1, y.2.den A)
     have : (((parts.toList.map (·.1)).zip ys).map fun y => (y.1, y.2.den A)) = (parts.toList.map (·.1)).zip (ys.map (Sy.den A)) := by
       rw [List.zip_map_right]
       rfl
     rw [this, ← hargs, List.zip_map']
   have e2 : (execOp a.eval op).run P w = .ok (.value (.slice (some ⟨w.heap.size, 0, none⟩) len len)) (w.alloc (.cells (((ys.flatMap syCells).map (Sc.den A))).toArray (P.elem t))) := by
     rw [← ep] at hrun
     simp only [execOp, ho, Sem.run_bind]
     rw [show (Array.map (fun x => match x with | (i, x) => (i, a.eval x)) parts) = parts.map (fun x => (x.1, a.eval x.2)) from rfl, hrun]
     rfl
   refine wp_value e2 (k _ _ ?_)
   have hlen : l.length = len := by rw [hll, hl2]
   have hown := own_new (e := P.elem t) hrow H'.frm.inb (by omega)
   rw [hlen] at hown
   have hFb : ¬ F b := hF b (Nat.le_refl _) (hB (b, some (.row (P.elem t) ty l)) (List.mem_append_left _ (List.mem_singleton.2 rfl)))
   have H2 := H'.new (p := some ⟨w.heap.size, 0, none⟩) (m := len) (c := len) (x := .cells (((ys.flatMap syCells).map (Sc.den A))).toArray (P.elem t)) (y := .row (P.elem t) ty l) hFb (by show OwnD _ _ _ (Asg.v _ b) l; rw [Asg.set_v]; exact OwnD.of hown) (fun k hk => by have hk : (Asg.v _ b).ownBlock = some k := hk; rw [Asg.set_v] at hk; cases hk; rfl) tv rfl tv
   rw [← setM_append] at H2
   refine ⟨_, S', H2.agree (Agr.refl _ _) fun j hj => ?_, by show _ = Asg.v _ b; rw [Asg.set_v], .inr ⟨_, List.mem_append_left _ (List.mem_singleton.2 rfl)⟩, tv⟩
   rcases hj with hj | ⟨z, hz⟩
   · exact .inl hj
   exact .inr ⟨z, List.mem_append_left _ hz⟩
 cases h
theorem box_step (H : OkF o n A S F s r a w) (hF : ¬ F b) {op : Oper} {t : TypeId} {cs : List Sc} (hall : ∀ c ∈ cs, c.all F) (hgood : ∀ c ∈ cs, c.good A)
   (e2 : (execOp a.eval op).run P w = .ok (.value (.pointer (some ⟨w.heap.size, 0, none⟩))) (w.alloc (.cells (cs.map (Sc.den A)).toArray t))) {hs : List Hid}
   {K : Act → World → Prop} {Q : Exit → Act → World → Prop} (k : ∀ v w', After o n F s r a ⟨[], hs, .one (.ptr b 0), [(b, some (.box t cs))]⟩ v w' → K (a.put op.dst v) w') : op.wp P a w K Q := by
 refine wp_value e2 (k _ _ ?_)
 have hFb : ¬ F b := hF
 have hag := Agr.set (A := A) hFb none 0 0 w.heap.size
 have H2 := H.new (p := none) (m := 0) (c := 0) (x := .cells (cs.map (Sc.den A)).toArray t) (y := .box t cs) hFb (by
     show (w.alloc _).heap[(A.set b none 0 0 w.heap.size).b b]? = _
     rw [Asg.set_b, ← scs_congr hag hall]
     exact heap_alloc_new w _) (fun k hk => by have hk : some ((A.set b none 0 0 w.heap.size).b b) = some k := hk; rw [Asg.set_b] at hk; cases hk; rfl) (fun c hc => Sc.mono (fun j hj => .inl hj) (hall c hc)) rfl (fun c hc => Sc.good_congr hag (hall c hc) (hgood c hc))
 refine ⟨_, S, H2, ?_, .inr ⟨_, List.mem_singleton.2 rfl⟩, tv⟩
 show _ = Value.pointer (some ⟨(A.set b none 0 0 w.heap.size).b b, 0, none⟩)
 rw [Asg.set_b]
theorem store_val {q : Sy} (h4 : (syCells q).all scOne = true) (h5 : ∀ ps, q ≠ .tup ps) : (q.den A).cells.toList = (syCells q).map (Sc.den A) ∧ ∀ u ∈ (syCells q).map (Sc.den A), u.oneCell' = true := by
 refine ⟨?_, fun u hu => ?_⟩
 · cases q with
   | one c =>
     have h4 : scOne c = true := by simpa [syCells] using h4
     show (Sc.den A c).cells.toList = [Sc.den A c]
     cases c with
     | v u =>
       have h4 : u.oneCell' = true := h4
       show u.cells.toList = [u]
       cases u <;> first | rfl | (simp [Value.oneCell'] at h4)
     | hd p q x => cases h4
     | _ => rfl
   | agg ds => rfl
   | tup ps => exact (h5 ps rfl).elim
 obtain ⟨c, hc, rfl⟩ := List.mem_map.1 hu
 have := List.all_eq_true.1 h4 c hc
 cases c <;> first | exact this | rfl | cases this
theorem store_step (H : OkF o n A S F s r a w) {op : Oper} {t : TypeId} {x y : Operand} {p q : Sy} {out : Out} (ho : op.op = .store t x y) (hx : a.eval x = p.den A) (hy : a.eval y = q.den A) (hq : q.all F ∧ q.good A)
   (h : (storeT P t p q).run s r = some out) {K : Act → World → Prop} {Q : Exit → Act → World → Prop} (k : ∀ v w', After o n F s r a out v w' → K (a.put op.dst v) w') : op.wp P a w K Q := by
 unfold storeT at h
 split at h
 · rename_i j off
   obtain ⟨z, hz, h⟩ := res_run h
   split at h
   · rename_i bt cs
     obtain ⟨hg, h⟩ := guardT_run h
     simp only [Bool.and_eq_true] at hg
     obtain ⟨⟨⟨⟨h1, h2⟩, h3⟩, h4⟩, h5⟩ := hg
     have h1 := Nat.le_of_ble_eq_true h1; have h2 := beq_t h2
     have e := ret_run h
     subst e
     have hm : memF A r j = some (Rs.of (.box (A.b j) bt (cs.map (Sc.den A)))) := by show (r j).map _ = _; rw [hz]; rfl
     have hb : w.heap[A.b j]? = some (.cells (cs.map (Sc.den A)).toArray bt (0, 0)) := H.frm.ok j _ hm
     obtain ⟨inf, hinf⟩ := Option.isSome_iff_exists.1 h3
     obtain ⟨hcells, hone⟩ := store_val (A := A) h4 (fun ps e => by subst e; cases h5)
     have hrun := run_storeAt_box (P := P) w t bt (A.b j) off (cs.map (Sc.den A)) ((syCells q).map (Sc.den A)) (q.den A) hb hcells (by simpa using h1) (by rw [hinf]; simp only [Option.map_some, List.length_map]; simp only [Program.cellsOf, hinf, Option.map_some, Option.getD_some] at h2; rw [h2]) hone
     have hx : a.eval x = .pointer (some ⟨A.b j, off, none⟩) := hx
     have e2 : (execOp a.eval op).run P w = .ok .skip (w.setRow (A.b j) ((cs.map (Sc.den A)).take off ++ (syCells q).map (Sc.den A) ++ (cs.map (Sc.den A)).drop (off + ((syCells q).map (Sc.den A)).length)).toArray) := by
       simp only [execOp, ho, Sem.run_bind, hx, hy, hrun]
       rfl
     have hnew : ((cs.map (Sc.den A)).take off ++ (syCells q).map (Sc.den A) ++ (cs.map (Sc.den A)).drop (off + ((syCells q).map (Sc.den A)).length)) = (cs.take off ++ syCells q ++ cs.drop (off + (syCells q).length)).map (Sc.den A) := by
       rw [List.map_append, List.map_append, List.map_take, List.map_drop, List.length_map]
     rw [hnew] at e2
     unfold Oper.wp
     rw [e2]
     refine k undef _ ?_
     have hr := H.rall j _ hz
     have hgb : w.grownBy (w.setRow (A.b j) ((cs.take off ++ syCells q ++ cs.drop (off + (syCells q).length)).map (Sc.den A)).toArray) (some (A.b j)) := ⟨rfl, rfl, rfl, by simp, fun k _ hk => setRow_other w (A.b j) k _ (fun e => hk (by rw [e]))⟩
     have hf1 := H.frm.mut j hm (Chg.of hgb)
     have hown := H.frm.own j _ (A.b j) hm rfl
     have hf2 := hf1.put j (Rs.of (.box (A.b j) bt ((cs.take off ++ syCells q ++ cs.drop (off + (syCells q).length)).map (Sc.den A)))) (setRow_heap w (A.b j) _ _ bt _ hb) (fun b' hb' => by
       cases hb'
       refine ⟨hown.1, by simpa using hown.2.1, hown.2.2, fun i ri hi hri e => ?_⟩
       unfold updF2 at hri
       rw [if_neg hi] at hri
       exact hi (H.frm.apart i j ri _ (A.b j) hri hm e rfl))
     have hsame : updF2 (updF2 (memF A r) j none) j (some (Rs.of (.box (A.b j) bt ((cs.take off ++ syCells q ++ cs.drop (off + (syCells q).length)).map (Sc.den A))))) = updF2 (memF A r) j (some (Rs.of (.box (A.b j) bt ((cs.take off ++ syCells q ++ cs.drop (off + (syCells q).length)).map (Sc.den A))))) := by
       funext i; unfold updF2; split <;> rfl
     rw [hsame] at hf2
     have hin : ∀ c ∈ cs.take off ++ syCells q ++ cs.drop (off + (syCells q).length), c.all F ∧ c.good A := by
       intro c hc
       rcases List.mem_append.1 hc with hc | hc
       · rcases List.mem_append.1 hc with hc | hc
         · exact ⟨hr.2.1 c (List.mem_of_mem_take hc), hr.2.2 c (List.mem_of_mem_take hc)⟩
         cases q with
         | one c' => have := List.mem_singleton.1 hc; subst this; exact hq
         | agg ds => exact ⟨hq.1 c hc, hq.2 c hc⟩
         | tup ps => cases hc
       exact ⟨hr.2.1 c (List.mem_of_mem_drop hc), hr.2.2 c (List.mem_of_mem_drop hc)⟩
     have H2 := OkF.upd H j (some (.box bt (cs.take off ++ syCells q ++ cs.drop (off + (syCells q).length)))) (fun z hz' => by cases hz'; exact ⟨hr.1, fun c hc => (hin c hc).1, fun c hc => (hin c hc).2⟩) (fun z e => by cases e; trivial) hf2
     exact ⟨A, S, H2.agree (Agr.refl _ _) fun _ h => .inl h, rfl, tv, tv⟩
   cases h
 cases h
end
section
variable {P : Program} {o : OrgG} {n : Nat} {A A' : Asg} {S S' T : Stab} {F G : Nat → Prop} {s : Nat → Option E2} {r : Nat → Option R2} {a : Act} {w w' : World} {C : List (Nat × Bool)} {b : Nat}
theorem put_left {α : Type} {u v a b : List α} {off k : Nat} (h : off + k ≤ a.length) (e : u = a.take off ++ v ++ a.drop (off + k)) : u ++ b = (a ++ b).take off ++ v ++ (a ++ b).drop (off + k) := by
 rw [e, List.take_append_of_le_length (by omega), List.drop_append_of_le_length (by omega)]
 simp only [List.append_assoc]
theorem put_right {α : Type} {u v a b : List α} {off m k : Nat} (h : a.length + m = off) (e : u = b.take m ++ v ++ b.drop (m + k)) : a ++ u = (a ++ b).take off ++ v ++ (a ++ b).drop (off + k) := by
 subst h
 rw [e, List.take_append, List.drop_append, List.take_of_length_le (l := a) (i := a.length + m) (by omega), List.drop_of_length_le (l := a) (i := a.length + m + k) (by omega), List.nil_append]
 have e1 : a.length + m - a.length = m := by omega
 have e2 : a.length + m + k - a.length = m + k := by omega
 rw [e1, e2]
 simp only [List.append_assoc]
theorem setAt_len : ∀ {t : Ty} {off : Nat} {t' : Ty} {v : El t'} {x u : El t}, setAt t off t' v x = some u → off + tsz0 t' ≤ tsz0 t ∧ cels t u = (cels t x).take off ++ cels t' v ++ (cels t x).drop (off + tsz0 t') := by
 have whole : ∀ {t t' : Ty} {off : Nat} {v : El t'} {x u : El t}, wholeAt t off v = some u → off + tsz0 t' ≤ tsz0 t ∧ cels t u = (cels t x).take off ++ cels t' v ++ (cels t x).drop (off + tsz0 t') := fun {t t' off v x u} h => by
   cases off with
   | succ _ => cases h
   | zero =>
   obtain ⟨e, h⟩ := castEl_ok h
   subst e
   have h : v = u := h
   subst h
   exact ⟨by omega, by rw [List.take_zero, List.nil_append, Nat.zero_add, ← cels_len0 t' x, List.drop_length, List.append_nil]⟩
 intro t
 induction t with
 | pair p q ihp ihq =>
   intro off t' v x u h
   simp only [setAt] at h
   split at h
   · rename_i y hy; cases h; exact whole hy
   split at h
   · rename_i hlt
     have hlt : off < tsz0 p := by simpa using Nat.blt_eq ▸ hlt
     obtain ⟨y, hy, rfl⟩ := Option.map_eq_some_iff.1 h
     obtain ⟨k1, k2⟩ := ihp hy
     refine ⟨by show _ ≤ tsz0 p + tsz0 q; omega, ?_⟩
     show cels p y ++ cels q x.2 = (cels p x.1 ++ cels q x.2).take off ++ cels t' v ++ (cels p x.1 ++ cels q x.2).drop (off + tsz0 t')
     exact put_left (by rw [cels_len0]; omega) k2
   rename_i hlt
   have hlt : ¬ off < tsz0 p := fun q => by rw [← Nat.blt_eq] at q; rw [q] at hlt; cases hlt
   obtain ⟨y, hy, rfl⟩ := Option.map_eq_some_iff.1 h
   obtain ⟨k1, k2⟩ := ihq hy
   refine ⟨by show _ ≤ tsz0 p + tsz0 q; omega, ?_⟩
   show cels p x.1 ++ cels q y = (cels p x.1 ++ cels q x.2).take off ++ cels t' v ++ (cels p x.1 ++ cels q x.2).drop (off + tsz0 t')
   exact put_right (by rw [cels_len0]; omega) k2
 | int => intro off t' v x u h; exact whole h
 | bool => intro off t' v x u h; exact whole h
 | str => intro off t' v x u h; exact whole h
 | list _ _ => intro off t' v x u h; exact whole h
 | map _ _ _ => intro off t' v x u h; exact whole h
 | ptr _ _ => intro off t' v x u h; exact whole h
theorem row_put {ty t' : Ty} {xs us : List Value} {l : List (El ty)} {i off : Nat} {v : El t'} {u : El ty} (h : RowRd S w xs l) (hi : i < l.length) (hu : CelsOk S w us (cels t' v)) (hs : setAt ty off t' v (l.getD i (dfl ty)) = some u) :
   RowRd S w (xs.take (i * tsz0 ty + off) ++ us ++ xs.drop (i * tsz0 ty + off + us.length)) (l.set i u) := by
 obtain ⟨k1, k2⟩ := setAt_len hs
 have hul : us.length = tsz0 t' := by rw [hu.len, cels_len0]
 have hxl : xs.length = l.length * tsz0 ty := by rw [h.1, ← tsz0_eq]
 have hile : (i + 1) * tsz0 ty ≤ xs.length := by rw [hxl]; exact Nat.mul_le_mul_right _ hi
 rw [Nat.succ_mul] at hile
 refine ⟨by rw [List.length_append, List.length_append, List.length_take, List.length_drop, List.length_set, ← tsz0_eq, ← hxl]; omega, fun j hj => ?_⟩
 rw [List.length_set] at hj
 rw [← tsz0_eq]
 have hold := h.2 j hj
 rw [← tsz0_eq] at hold
 have hjle : (j + 1) * tsz0 ty ≤ xs.length := by rw [hxl]; exact Nat.mul_le_mul_right _ hj
 rw [Nat.succ_mul] at hjle
 by_cases e : j = i
 · subst e
   rw [List.getElem_set_self]
   have := take_drop_put xs us (j * tsz0 ty) off (tsz0 ty) hile (by omega)
   rw [this]
   have hx : l.getD j (dfl ty) = l[j]'hi := by rw [List.getD_eq_getElem?_getD, List.getElem?_eq_getElem hi]; rfl
   rw [hx] at k2
   refine cels_rd ty ?_
   rw [k2, hul]
   have hc := rd_cels ty hold
   exact ((hc.take off).append hu).append (hc.drop _)
 rw [List.getElem_set_ne (fun q => e q.symm)]
 have he : ((xs.take (i * tsz0 ty + off) ++ us ++ xs.drop (i * tsz0 ty + off + us.length)).drop (j * tsz0 ty)).take (tsz0 ty) = (xs.drop (j * tsz0 ty)).take (tsz0 ty) := by
   apply List.ext_getElem?
   intro q
   rw [List.getElem?_take, List.getElem?_take]
   split
   · rename_i hq
     rw [List.getElem?_drop, List.getElem?_drop]
     rcases Nat.lt_or_gt_of_ne e with hlt | hgt
     · have := Nat.mul_le_mul_right (tsz0 ty) (show j + 1 ≤ i from hlt)
       rw [Nat.succ_mul] at this
       rw [List.append_assoc, List.getElem?_append_left (by rw [List.length_take]; omega), List.getElem?_take, if_pos (by omega)]
     have := Nat.mul_le_mul_right (tsz0 ty) (show i + 1 ≤ j from hgt)
     rw [Nat.succ_mul] at this
     rw [List.getElem?_append_right (by rw [List.length_append, List.length_take]; omega), List.getElem?_drop]
     congr 1
     rw [List.length_append, List.length_take]; omega
   rfl
 rw [he]; exact hold
theorem CelsOk.keep {w w' : World} (hk : Keeps S w w') : ∀ {vs : List Value} {cs : List Cel}, CelsOk S w vs cs → CelsOk S w' vs cs
 | [], [], _ => trivial
 | _ :: _, _ :: _, h => ⟨h.1.keep hk, h.2.keep hk⟩
 | [], _ :: _, h => h.elim
 | _ :: _, [], h => h.elim
theorem HdAt.as {e : TypeId} {k k' m m' : Nat} {v : Value} {xs : List Value} (h : HdAt w e k v m xs) (e1 : k = k') (e2 : m = m') : HdAt w e k' v m' xs := by subst e1; subst e2; exact h
theorem beqf {re : List (Nat × Option R2)} {j : Nat} (h : (re.all fun p => !Nat.beq p.1 j) = true) : ¬ ∃ x, (j, x) ∈ re := fun ⟨x, hx⟩ => by
 have := List.all_eq_true.1 h _ hx
 simp at this
theorem FU.mono {re re' : List (Nat × Option R2)} (h : ∀ p ∈ re, p ∈ re') {j : Nat} (q : FU F re j) : FU F re' j := q.imp id fun ⟨x, hx⟩ => ⟨x, h _ hx⟩
theorem elAt_store {t : TypeId} {x y : Operand} {op : Oper} (ho : op.op = .store t x y) {g d : Nat} {u : Value} (hx : a.eval x = .pointer (some ⟨g, d, none⟩)) (hy : a.eval y = u) (hr : (Instr.storeAt t (.pointer (some ⟨g, d, none⟩)) u).run P w = .ok () w') : (execOp a.eval op).run P w = .ok .skip w' := by
 simp only [execOp, ho, Sem.run_bind, hx, hy, hr]; rfl
theorem cellsOf_map {t : TypeId} {k : Nat} (h1 : P.cellsOf t = k) (h2 : (P.info? t).isSome = true) : (P.info? t).map (·.size) = some k := by
 obtain ⟨inf, hinf⟩ := Option.isSome_iff_exists.1 h2
 rw [hinf]; simp only [Option.map_some]
 simp only [Program.cellsOf, hinf, Option.map_some, Option.getD_some] at h1; rw [h1]
theorem storeEl_row (H : OkF o n A S F s r a w) {op : Oper} {t : TypeId} {x y : Operand} {j : Nat} {i : Int} {sz off : Nat} {q : Sy} {e : TypeId} {ty ty' : Ty} {l : List (El ty)} {out : Out} (ho : op.op = .store t x y) (hx : a.eval x = (Sc.el j i sz off).den A) (hy : a.eval y = q.den A) (hj : r j = some (.row e ty l))
   (hg : (Nat.beq (tsz0 ty) sz && (Nat.beq (P.cellsOf t) (tsz0 ty') && ((P.info? t).isSome && (syCells q).all scOne)) && Nat.blt 0 (tsz0 ty')) = true)
   (h : (frz (syCells q) fun re => guardT (re.all fun p => !Nat.beq p.1 j) (gathSy ty' q fun v =>
     match setAt ty off ty' v (l.getD i.toNat (dfl ty)) with
     | some u => .ret ⟨[Bnd i l.length], [], .one (.v undef), (j, some (.row e ty (l.set i.toNat u))) :: re⟩
     | none => .fail)).run s r = some out) (hcs : ∀ p ∈ out.cs, p) {K : Act → World → Prop} {Q : Exit → Act → World → Prop} (k : ∀ v w', After o n F s r a out v w' → K (a.put op.dst v) w') : op.wp P a w K Q := by
 simp only [Bool.and_eq_true] at hg
 obtain ⟨⟨g1, g2, g3, g4⟩, g5⟩ := hg
 have g1 := beq_t g1; have g2 := beq_t g2
 have g5 : 0 < tsz0 ty' := by simpa using Nat.blt_eq ▸ g5
 obtain ⟨re, hz, hl, h⟩ := frz_run _ _ h
 obtain ⟨S', hS, H'⟩ := H.freeze hz
 obtain ⟨hre, h⟩ := guardT_run h
 obtain ⟨v, hv, htup, h⟩ := gathSy_cells (frz_reads H hz hS H' hl) h
 split at h
 · rename_i u hu
   have e := ret_run h
   subst e
   obtain ⟨h0, h1⟩ : Bnd i l.length := hcs _ (List.mem_singleton.2 rfl)
   have hi : i.toNat < l.length := by omega
   have hj' : setM r re j = some (.row e ty l) := by rw [setM_out (beqf hre)]; exact hj
   have hm : memF A (setM r re) j = some (rowRs e (A.v j) l) := by show (setM r re j).map _ = _; rw [hj']; rfl
   obtain ⟨xs, hd, hR⟩ : OwnD S' w e (A.v j) l := H'.frm.ok j _ hm
   obtain ⟨hv1, hv2⟩ := store_val (A := A) g4 htup
   have hlen : ((syCells q).map (Sc.den A)).length = tsz0 ty' := by rw [Data.len hv, tsz0_eq]
   obtain ⟨k1, _⟩ := setAt_len hu
   have hile : (i.toNat + 1) * tsz0 ty ≤ l.length * tsz0 ty := Nat.mul_le_mul_right _ hi
   rw [Nat.succ_mul] at hile
   rw [← tsz0_eq] at hd
   obtain ⟨w', hrun, hd', hG, hsz⟩ := put_hd (P := P) (t := t) (c := i.toNat * tsz0 ty + off) hd hv1 (by omega) (by omega) (by rw [hlen]; exact cellsOf_map g2 g3) hv2
   have hx : a.eval x = .pointer (some ⟨hdB (A.v j), hdO (A.v j) + (i.toNat * tsz0 ty + off), none⟩) := by
     rw [hx, ← Nat.add_assoc, g1]; rfl
   have e2 := elAt_store (P := P) ho hx hy hrun
   unfold Oper.wp
   rw [e2]
   refine k undef _ ?_
   have hch : Chg w w' (HasK A (setM r re) fun c => c = j) := (Chg.of hG).mono fun c hc => ⟨j, _, rfl, hj', hc⟩
   have hk := H'.keepS hch
   have H2 := H'.swap (Agr.refl _ _) (re := [(j, some (.row e ty (l.set i.toNat u)))]) (S' := S') (fun c => c = j) (fun c hc => by rw [show c = j from hc]; exact ⟨_, List.mem_singleton.2 rfl⟩) hch (fun _ q => q) (fun _ q => .inl q) (fun c z hz => by
     cases List.mem_singleton.1 hz
     refine ⟨tv, tv, rfl, ⟨_, hd'.as (tsz0_eq ty) List.length_set.symm, row_put (hR.keep hk) hi ((rd_cels ty' hv).keep hk) hu⟩, fun c hc => ?_⟩
     have hk : HasK A (setM r re) (fun i => i = j) c := ⟨j, _, rfl, hj', hc⟩
     exact ⟨.inl hk, by rw [hsz]; exact (H'.hasK hk).2.1⟩) (fun c d zc zd b h1 h2 _ _ => by
     cases List.mem_singleton.1 h1; cases List.mem_singleton.1 h2; rfl)
   refine ⟨A, S', H2.agree (Agr.refl _ _) fun c hc => ?_, rfl, tv, tv⟩
   exact FU.mono (fun p hp => by rw [List.mem_singleton.1 hp]; exact List.mem_cons_self) hc
 cases h
theorem flatC_set {t : Ty} {x0 : Cel} : ∀ {l : List (El t)} {i off : Nat} {u : El t}, i < l.length → off < tsz0 t → cels t u = (cels t (l.getD i (dfl t))).set off x0 → flatC t (l.set i u) = (flatC t l).set (i * tsz0 t + off) x0
 | y :: l, 0, off, u, _, ho, h => by
   show cels t u ++ flatC t l = (cels t y ++ flatC t l).set (0 * tsz0 t + off) x0
   have h : cels t u = (cels t y).set off x0 := h
   rw [Nat.zero_mul, Nat.zero_add, List.set_append_left _ _ (by rw [cels_len0]; exact ho), h]
 | y :: l, i + 1, off, u, hi, ho, h => by
   show cels t y ++ flatC t (l.set i u) = (cels t y ++ flatC t l).set ((i + 1) * tsz0 t + off) x0
   have ih := flatC_set (l := l) (i := i) (u := u) (by simpa using hi) ho h
   rw [ih, Nat.succ_mul, List.set_append_right _ _ (by rw [cels_len0]; omega), cels_len0]
   congr 2; omega
theorem set_one {α : Type} {xs : List α} {c : Nat} {u : α} (h : c < xs.length) : xs.take c ++ [u] ++ xs.drop (c + 1) = xs.set c u := by
 rw [List.set_eq_take_append_cons_drop, if_pos h, List.append_assoc]; rfl
theorem nestV_run (H : OkF o n A S F s r a w) {cell : Option Cel} {ie : TypeId} {k : (t' : Ty) → El t' → List Nat → Tr Out} {q : Sy} {out : Out} (h : (nestV P cell ie k q).run s r = some out) :
   ∃ t' v ks x0 c, (k t' v ks).run s r = some out ∧ q = .one c ∧ scOne c = true ∧ (tsz0 t' = 1 → cels t' v = [x0]) ∧ OCel S w ie (c.den A) x0 ∧ (∀ i ∈ ks, ∃ x, r i = some x) ∧ (∀ b, (c.den A).ownBlock = some b → HasK A r (fun i => i ∈ ks) b) ∧ (∀ i ∈ ks, ∀ x, r i = some x → ∀ b, (x.den A i).has b → (c.den A).ownBlock = some b) := by
 unfold nestV at h
 split at h
 · rename_i i
   obtain ⟨z, hz, h⟩ := res_run h
   split at h
   · rename_i ie' ty m
     obtain ⟨hg, h2⟩ := guardT_run h
     clear h
     have := beq_t hg; subst this
     have hm : memF A r i = some (rowRs ie' (A.v i) m) := by show (r i).map _ = _; rw [hz]; rfl
     refine ⟨_, _, _, .l ty m, .own i, h2, rfl, rfl, fun _ => rfl, H.frm.ok i _ hm, fun i' hi => ?_, fun b hb => ⟨i, _, List.mem_singleton.2 rfl, hz, hb⟩, fun i' hi x hx b hb => ?_⟩
     · rw [List.mem_singleton.1 hi]; exact ⟨_, hz⟩
     have := List.mem_singleton.1 hi; subst this
     rw [hz] at hx; cases hx; exact hb
   cases h
 · split at h
   · rename_i ty _
     exact ⟨_, _, _, .l ty ([] : List (El ty)), .v (.slice none 0 0), h, rfl, rfl, fun _ => rfl, OwnD.nil, fun _ q => (by cases q), fun b q => (by cases q), fun _ q => (by cases q)⟩
   cases h
 · rename_i m
   exact ⟨_, _, _, .i m, _, h, rfl, rfl, fun _ => rfl, ⟨rfl, rfl⟩, fun _ q => (by cases q), fun b q => (by cases q), fun _ q => (by cases q)⟩
 · rename_i m
   exact ⟨_, _, _, .b m.den, _, h, rfl, rfl, fun _ => rfl, ⟨rfl, rfl⟩, fun _ q => (by cases q), fun b q => (by cases q), fun _ q => (by cases q)⟩
 · rename_i m
   exact ⟨_, _, _, .s m, _, h, rfl, rfl, fun _ => rfl, ⟨rfl, rfl⟩, fun _ q => (by cases q), fun b q => (by cases q), fun _ q => (by cases q)⟩
 cases h
theorem storeEl_nest {B : Nat} (H : OkF o n A S F s r a w) (hF : ∀ j, b ≤ j → j < B → ¬ F j) {op : Oper} {t : TypeId} {x y : Operand} {j : Nat} {i : Int} {sz off : Nat} {q : Sy} {qf : Nat} {hh : Option Nat} {e ie : TypeId} {ty : Ty} {l : List (El ty)} {out : Out} (ho : op.op = .store t x y) (hx : a.eval x = (Sc.el j i sz off).den A) (hy : a.eval y = q.den A) (hj : r j = some (.ext (.nest qf hh e ty ie l)))
   (h : (nestV P ((cels ty (l.getD i.toNat (dfl ty)))[off]?) ie (fun t' v ks => match setAt ty off t' v (l.getD i.toNat (dfl ty)) with
     | some u => guardT (Nat.beq (tsz0 ty) sz && (Nat.beq (P.cellsOf t) 1 && (Nat.beq (tsz0 t') 1 && ((P.info? t).isSome && ks.all fun k => !Nat.beq k j))))
       (.ret ⟨[Bnd i l.length, holeP hh (i.toNat * sz + off)], [], .one (.v undef), (j, some (.ext (.nest b none e ty ie (l.set i.toNat u)))) :: (b, none) :: ks.map fun k => (k, none)⟩)
     | none => .fail) q).run s r = some out) (hcs : ∀ p ∈ out.cs, p) (hB : ∀ p ∈ out.re, p.1 < B) {K : Act → World → Prop} {Q : Exit → Act → World → Prop} (k : ∀ v w', After o n F s r a out v w' → K (a.put op.dst v) w') : op.wp P a w K Q := by
 classical
 obtain ⟨t', v, ks, x0, c, h2, hq, hone, hcel, hO, hks, hkb, hkb2⟩ := nestV_run H h
 clear h
 subst hq
 split at h2
 · rename_i u hu
   obtain ⟨hg, h⟩ := guardT_run h2
   clear h2
   simp only [Bool.and_eq_true] at hg
   obtain ⟨g1, g2, g3, g4, g5⟩ := hg
   have g1 := beq_t g1; have g2 := beq_t g2; have g3 := beq_t g3
   have e0 := ret_run h
   subst e0
   obtain ⟨h0, h1⟩ : Bnd i l.length := hcs _ List.mem_cons_self
   have hho : holeP hh (i.toNat * sz + off) := hcs _ (List.mem_cons_of_mem _ List.mem_cons_self)
   have hFb : ¬ F b := hF b (Nat.le_refl _) (hB (b, none) (List.mem_cons_of_mem _ List.mem_cons_self))
   subst g1
   have hi : i.toNat < l.length := by omega
   obtain ⟨k1, k2⟩ := setAt_len hu
   rw [g3] at k1 k2
   rw [hcel g3] at k2
   have hoff : off < tsz0 ty := by omega
   rw [set_one (by rw [cels_len0]; exact hoff)] at k2
   have hfl := flatC_set (t := ty) hi hoff k2
   generalize hcc : i.toNat * tsz0 ty + off = cc at hho hfl
   have hile : (i.toNat + 1) * tsz0 ty ≤ l.length * tsz0 ty := Nat.mul_le_mul_right _ hi
   rw [Nat.succ_mul] at hile
   have hclt : cc < l.length * tsz0 ty := by omega
   have hm : memF A r j = some ((X2.nest qf hh e ty ie l).den A j) := by show (r j).map _ = _; rw [hj]; rfl
   have hN : NestAt S w (A.v j) (A.f qf) hh e ty ie l := H.frm.ok j _ hm
   obtain ⟨xs, n1, n2, n3⟩ := hN.row
   have hone' : ((c.den A).cells.toList = [c.den A]) ∧ (c.den A).oneCell' = true := by
     obtain ⟨z1, z2⟩ := store_val (A := A) (q := .one c) (by simp [syCells, hone]) (fun ps q => by cases q)
     exact ⟨z1, z2 _ (by simp [syCells])⟩
   obtain ⟨w', hrun, hd', hG, hsz⟩ := put_hd (P := P) (t := t) (c := cc) n1 hone'.1 (by simp; omega) (by simp) (by simpa using cellsOf_map g2 g4) (by simpa using hone'.2)
   have hx : a.eval x = .pointer (some ⟨hdB (A.v j), hdO (A.v j) + cc, none⟩) := by
     rw [hx, ← hcc, ← Nat.add_assoc]; rfl
   have e2 := elAt_store (P := P) ho hx hy hrun
   unfold Oper.wp
   rw [show (execOp a.eval op).run P w = _ from e2]
   refine k undef _ ?_
   have hxl : xs.length = l.length * tsz0 ty := n1.1
   simp only [List.length_singleton] at hd'
   rw [set_one (by omega)] at hd'
   let g : Lit → Value := fun x => if x = ix cc then c.den A else A.f qf x
   have gc : g (ix cc) = c.den A := if_pos rfl
   have gn : ∀ d, d ≠ cc → g (ix d) = A.f qf (ix d) := fun d hd => if_neg fun q => hd (ix_inj q)
   have hag : Agr F A (A.setF b g) := Agr.setF hFb g
   have hjF := (H.rall j _ hj).1
   have hvj : (A.setF b g).v j = A.v j := ((hag j hjF).1).symm
   let K : Nat → Prop := fun c => c = j ∨ c ∈ ks
   have hjK : ∀ bb, (A.v j).ownBlock = some bb → HasK A r K bb := fun bb hb => ⟨j, _, .inl rfl, hj, .inl hb⟩
   have hnh : ∀ d bb, d < l.length * tsz0 ty → d ≠ cc → (A.f qf (ix d)).ownBlock = some bb → ((R2.ext (.nest qf hh e ty ie l)).den A j).has bb := fun d bb hd hne hb => by
     refine .inr ⟨d, hd, fun q => ?_, hb⟩
     subst q; exact hne hho
   have hne : ∀ d, d ≠ cc → hh ≠ some d := fun d hd q => by subst q; exact hd hho
   have hkK : ∀ bb, (c.den A).ownBlock = some bb → HasK A r K bb := fun bb hb => let ⟨i, x, h1, h2, h3⟩ := hkb bb hb; ⟨i, x, .inr h1, h2, h3⟩
   -- the row that comes is apart
   have hap : ∀ bb, (c.den A).ownBlock = some bb → ((R2.ext (.nest qf hh e ty ie l)).den A j).has bb → False := fun bb hb hb2 => by
     obtain ⟨i, x, h1, h2, h3⟩ := hkb bb hb
     have := H.frm.apart i j _ _ bb (show memF A r i = some (x.den A i) by simp [memF, h2]) hm h3 hb2
     subst this
     have := List.all_eq_true.1 g5 _ h1
     simp at this
   have hch : Chg w w' (HasK A r K) := (Chg.of hG).mono fun bb hb => hjK bb hb
   have hk := H.keepS hch
   have hcell : ∀ bb, ((R2.ext (.nest qf hh e ty ie l)).den A j).has bb → (A.v j).ownBlock ≠ some bb → w'.heap[bb]? = w.heap[bb]? := fun bb hb hne => hG.block bb (H.frm.own j _ bb hm hb).2.1 fun z => hne z.symm
   have hH2 := H.swap hag (re := (j, some (.ext (.nest b none e ty ie (l.set i.toNat u)))) :: (b, none) :: ks.map fun k => (k, none)) (S' := S) K (fun d hd => by
     rcases hd with rfl | hd
     · exact ⟨_, List.mem_cons_self⟩
     exact ⟨none, List.mem_cons_of_mem _ (List.mem_cons_of_mem _ (List.mem_map.2 ⟨d, hd, rfl⟩))⟩) hch (fun _ q => q) (fun _ q => .inl q) (fun d z hz => ?_) (fun d d' z z' bb h1 h2 _ _ => ?_)
   · refine ⟨_, S, hH2, rfl, tv, tv⟩
   · have hz : (d, some z) = (j, some (.ext (.nest b none e ty ie (l.set i.toNat u)))) := by
       rcases List.mem_cons.1 hz with hz | hz
       · exact hz
       rcases List.mem_cons.1 hz with hz | hz
       · cases hz
       obtain ⟨_, _, q⟩ := List.mem_map.1 hz; cases q
     cases hz
     have hlen : (l.set i.toNat u).length = l.length := List.length_set
     refine ⟨.inr ⟨none, List.mem_cons_of_mem _ List.mem_cons_self⟩, tv, rfl, ?_, fun bb hb => ?_⟩
     · show NestAt S w' ((A.setF b g).v j) ((A.setF b g).f b) none e ty ie (l.set i.toNat u)
       rw [hvj, Asg.setF_f]
       refine ⟨⟨xs.set cc (c.den A), by rw [hlen]; exact hd', fun u' hu' => ?_, fun d x hdx _ => ?_⟩, fun d1 d2 bb h1 h2 _ _ h3 h4 => ?_, fun d bb h1 _ h3 => ?_⟩
       · rcases List.mem_or_eq_of_mem_set hu' with q | rfl
         · exact n2 u' q
         exact hone'.2
       · rw [hfl] at hdx
         by_cases q : d = cc
         · subst q
           rw [List.getElem?_set_self (by rw [flatC_len]; exact hclt)] at hdx
           cases hdx
           rw [gc, List.getElem?_set_self (by omega)]
           refine ⟨rfl, hO.keep hk fun bb hb => ?_⟩
           exact hG.block bb (H.hasK (hkK bb hb)).2.1 fun q => hap bb hb (.inl q.symm)
         rw [List.getElem?_set_ne (fun z => q z.symm)] at hdx
         rw [gn d q, List.getElem?_set_ne (fun z => q z.symm)]
         obtain ⟨m1, m2⟩ := n3 d x hdx (hne d q)
         refine ⟨m1, m2.keep hk fun bb hb => ?_⟩
         have hdl := (List.getElem?_eq_some_iff.1 hdx).1
         rw [flatC_len] at hdl
         exact hcell bb (hnh d bb hdl q hb) fun z => hN.out d bb hdl (hne d q) hb z
       · rw [hlen] at h1 h2
         by_cases q1 : d1 = cc <;> by_cases q2 : d2 = cc
         · rw [q1, q2]
         · subst q1; rw [gc] at h3; rw [gn d2 q2] at h4
           exact (hap bb h3 (hnh d2 bb h2 q2 h4)).elim
         · subst q2; rw [gc] at h4; rw [gn d1 q1] at h3
           exact (hap bb h4 (hnh d1 bb h1 q1 h3)).elim
         rw [gn d1 q1] at h3; rw [gn d2 q2] at h4
         exact hN.inj d1 d2 bb h1 h2 (hne d1 q1) (hne d2 q2) h3 h4
       rw [hlen] at h1
       by_cases q : d = cc
       · subst q; rw [gc] at h3; exact fun z => hap bb h3 (.inl z)
       rw [gn d q] at h3; exact hN.out d bb h1 (hne d q) h3
     have hb : (((A.setF b g).v j).ownBlock = some bb) ∨ ∃ d, d < (l.set i.toNat u).length * tsz0 ty ∧ none ≠ some d ∧ (((A.setF b g).f b) (ix d)).ownBlock = some bb := hb
     have hres : HasK A r K bb := by
       rcases hb with hb | ⟨d, hd, _, hb⟩
       · rw [hvj] at hb; exact hjK bb hb
       rw [Asg.setF_f] at hb
       rw [hlen] at hd
       by_cases q : d = cc
       · subst q; rw [gc] at hb; exact hkK bb hb
       rw [gn d q] at hb; exact ⟨j, _, .inl rfl, hj, hnh d bb hd q hb⟩
     exact ⟨.inl hres, by rw [hsz]; exact (H.hasK hres).2.1⟩
   have key : ∀ {d : Nat} {z : R2}, (d, some z) ∈ (j, some (.ext (.nest b none e ty ie (l.set i.toNat u)))) :: (b, none) :: (ks.map fun k => (k, (none : Option R2))) → d = j := fun hz => by
     rcases List.mem_cons.1 hz with hz | hz
     · cases hz; rfl
     rcases List.mem_cons.1 hz with hz | hz
     · cases hz
     obtain ⟨_, _, q⟩ := List.mem_map.1 hz; cases q
   rw [key h1, key h2]
 cases h2
theorem storeEl_step {B : Nat} (H : OkF o n A S F s r a w) (hF : ∀ j, b ≤ j → j < B → ¬ F j) {op : Oper} {t : TypeId} {x y : Operand} {p q : Sy} {out : Out} (ho : op.op = .store t x y) (hx : a.eval x = p.den A) (hy : a.eval y = q.den A) (hq : q.all F ∧ q.good A)
   (h : (storeT2 P b t p q).run s r = some out) (hcs : ∀ p ∈ out.cs, p) (hB : ∀ p ∈ out.re, p.1 < B) {K : Act → World → Prop} {Q : Exit → Act → World → Prop} (k : ∀ v w', After o n F s r a out v w' → K (a.put op.dst v) w') : op.wp P a w K Q := by
 unfold storeT2 at h
 split at h
 · unfold storeElT at h
   obtain ⟨R, hR, h⟩ := res_run h
   split at h
   · split at h
     · obtain ⟨hg, h⟩ := guardT_run h
       exact storeEl_row H ho hx hy hR hg h hcs k
     cases h
   · exact storeEl_nest H hF ho hx hy hR h hcs hB k
   cases h
 exact store_step H ho hx hy hq h k
end
section
variable {P : Program} {o : OrgG} {n : Nat} {A A' : Asg} {S S' T : Stab} {F G : Nat → Prop} {s : Nat → Option E2} {r : Nat → Option R2} {a : Act} {w w' : World} {C : List (Nat × Bool)} {b : Nat}
theorem nest_mem (H : OkF o n A S F s r a w) {j qf : Nat} {hh : Option Nat} {e ie : TypeId} {ty : Ty} {l : List (El ty)} (hj : r j = some (.ext (.nest qf hh e ty ie l))) : NestAt S w (A.v j) (A.f qf) hh e ty ie l :=
 H.frm.ok j ((X2.nest qf hh e ty ie l).den A j) (by show (r j).map _ = _; rw [hj]; rfl)
theorem flatC_app (t : Ty) (l m : List (El t)) : flatC t (l ++ m) = flatC t l ++ flatC t m := List.flatMap_append
theorem nestApp (H : OkF o n A S F s r a w) (hF : ¬ F b) {t e : TypeId} {ty : Ty} {bytes : Nat} (E : Elem P t e (tsz0 ty) bytes) (hby : bytes ≤ 1000) {ie : TypeId} {l m : List (El ty)} {v : Value} {old : Option Nat}
   (hold : match old with
     | some j => v = A.v j ∧ ∃ qf, r j = some (.ext (.nest qf none e ty ie l))
     | none => v = .slice none 0 0 ∧ l = [])
   {i qi : Nat} {e' : TypeId} (hi : r i = some (.ext (.nest qi none e' ty ie m))) (hne : old ≠ some i) (hlen : l.length + m.length ≤ 2147483647) (rty : TypeId) :
   ∃ v' w', (Builtin.append_ #[t, t] rty #[v, A.v i]).run P w = .ok v' w' ∧ ∃ A', OkF o n A' S (FU F ((b, some (.ext (.nest b none e ty ie (l ++ m)))) :: (old.toList.map (fun j => (j, none)) ++ [(i, none)]))) s (setM r ((b, some (.ext (.nest b none e ty ie (l ++ m)))) :: (old.toList.map (fun j => (j, none)) ++ [(i, none)]))) a w' ∧ v' = A'.v b := by
 have hNi := nest_mem H hi
 obtain ⟨ys, i1, i2, i3⟩ := hNi.row
 -- the nest that is there, as one without cells where there is none
 obtain ⟨f0, xs, x1, x2, x3, hinj, hout, hKl⟩ : ∃ f0 : Lit → Value, ∃ xs, HdAt w e (tsz0 ty) v l.length xs ∧ (∀ u ∈ xs, u.oneCell' = true) ∧ (∀ c x, (flatC ty l)[c]? = some x → xs[c]? = some (f0 (ix c)) ∧ OCel S w ie (f0 (ix c)) x) ∧
     (∀ c d bb, c < l.length * tsz0 ty → d < l.length * tsz0 ty → (f0 (ix c)).ownBlock = some bb → (f0 (ix d)).ownBlock = some bb → c = d) ∧ (∀ c bb, c < l.length * tsz0 ty → (f0 (ix c)).ownBlock = some bb → v.ownBlock ≠ some bb) ∧
     (∀ bb, (v.ownBlock = some bb ∨ ∃ c, c < l.length * tsz0 ty ∧ (f0 (ix c)).ownBlock = some bb) → ∃ j x, old = some j ∧ r j = some x ∧ (x.den A j).has bb) := by
   cases old with
   | some j =>
     obtain ⟨rfl, qf, hj⟩ := hold
     have hN := nest_mem H hj
     obtain ⟨xs, n1, n2, n3⟩ := hN.row
     refine ⟨A.f qf, xs, n1, n2, fun c x hc => n3 c x hc (by simp), fun c d bb h1 h2 => hN.inj c d bb h1 h2 (by simp) (by simp), fun c bb h1 => hN.out c bb h1 (by simp), fun bb hb => ⟨j, _, rfl, hj, ?_⟩⟩
     rcases hb with hb | ⟨c, h1, h2⟩
     · exact .inl hb
     exact .inr ⟨c, h1, by simp, h2⟩
   | none =>
     obtain ⟨rfl, rfl⟩ := hold
     refine ⟨fun _ => undef, [], HdAt.nil w e _, fun _ q => (by cases q), fun c x hc => by simp [flatC] at hc, fun c d bb h1 => by simp at h1, fun c bb h1 => by simp at h1, fun bb hb => ?_⟩
     rcases hb with hb | ⟨c, h1, _⟩
     · cases hb
     simp at h1
 have hapart : ∀ bb, (v.ownBlock = some bb ∨ ∃ c, c < l.length * tsz0 ty ∧ (f0 (ix c)).ownBlock = some bb) → ∀ c, c < m.length * tsz0 ty → (A.f qi (ix c)).ownBlock = some bb → False := fun bb hb c hc h2 => by
   obtain ⟨j, x, q1, q2, q3⟩ := hKl bb hb
   have := H.frm.apart j i _ _ bb (show memF A r j = some (x.den A j) by simp [memF, q2]) (show memF A r i = some ((R2.ext (.nest qi none e' ty ie m)).den A i) by simp [memF, hi]) q3 (.inr ⟨c, hc, by simp, h2⟩)
   subst this; exact hne q1
 obtain ⟨v', w', hr, k1, k2, k3⟩ := push_hd (ty := rty) E x1 (src_hd E.under i1 i2) (by simp only [maxLen]; omega) (by have := Nat.mul_le_mul hlen hby; omega)
 refine ⟨v', w', hr, ?_⟩
 obtain ⟨p', c', hv', _⟩ := k1.slice
 let g : Lit → Value := fun x => match x with
   | .int _ z => if z < (l.length * tsz0 ty : Nat) then f0 x else A.f qi (ix (z - (l.length * tsz0 ty : Nat)).toNat)
   | _ => undef
 have g1 : ∀ c, c < l.length * tsz0 ty → g (ix c) = f0 (ix c) := fun c hc => by
   show (if ((c : Int) < (l.length * tsz0 ty : Nat)) then _ else _) = _
   rw [if_pos (by omega)]
 have g2 : ∀ c, l.length * tsz0 ty ≤ c → g (ix c) = A.f qi (ix (c - l.length * tsz0 ty)) := fun c hc => by
   show (if ((c : Int) < (l.length * tsz0 ty : Nat)) then _ else _) = _
   rw [if_neg (by omega)]
   congr 2; omega
 have hag : Agr F A ((A.set b p' (l.length + m.length) c' 0).setF b g) := (Agr.set hF _ _ _ _).trans (Agr.setF hF g)
 have hvb : ((A.set b p' (l.length + m.length) c' 0).setF b g).v b = v' := by rw [hv']; exact Asg.set_v A b p' (l.length + m.length) c' 0
 let K : Nat → Prop := fun c => old = some c ∨ c = i
 have hl : ∀ bb, (v.ownBlock = some bb ∨ ∃ c, c < l.length * tsz0 ty ∧ (f0 (ix c)).ownBlock = some bb) → HasK A r K bb := fun bb hb => let ⟨j, x, q1, q2, q3⟩ := hKl bb hb; ⟨j, x, .inl q1, q2, q3⟩
 have hm : ∀ bb c, c < m.length * tsz0 ty → (A.f qi (ix c)).ownBlock = some bb → HasK A r K bb := fun bb c h1 h2 => ⟨i, _, .inr rfl, hi, .inr ⟨c, h1, by simp, h2⟩⟩
 have hch : Chg w w' (HasK A r K) := (Chg.of k2).mono fun bb hb => hl bb (.inl hb)
 have hk := H.keepS hch
 have hsub : ∀ {d : Nat} {z : R2}, (d, some z) ∈ (b, some (.ext (.nest b none e ty ie (l ++ m)))) :: (old.toList.map (fun j => (j, (none : Option R2))) ++ [(i, none)]) → (d, some z) = (b, some (.ext (.nest b none e ty ie (l ++ m)))) := fun hz => by
   rcases List.mem_cons.1 hz with hz | hz
   · exact hz
   rcases List.mem_append.1 hz with hz | hz
   · obtain ⟨_, _, q⟩ := List.mem_map.1 hz; cases q
   cases List.mem_singleton.1 hz
 have hll : (l ++ m).length * tsz0 ty = l.length * tsz0 ty + m.length * tsz0 ty := by rw [List.length_append, Nat.add_mul]
 have hcl : ∀ c bb, c < (l ++ m).length * tsz0 ty → (g (ix c)).ownBlock = some bb → HasK A r K bb ∧ v.ownBlock ≠ some bb := fun c bb hc hb => by
   rw [hll] at hc
   by_cases q : c < l.length * tsz0 ty
   · rw [g1 c q] at hb; exact ⟨hl bb (.inr ⟨c, q, hb⟩), hout c bb q hb⟩
   rw [g2 c (by omega)] at hb
   exact ⟨hm bb _ (by omega) hb, fun z => hapart bb (.inl z) _ (by omega) hb⟩
 have hstay : ∀ c bb, c < (l ++ m).length * tsz0 ty → (g (ix c)).ownBlock = some bb → w'.heap[bb]? = w.heap[bb]? := fun c bb hc hb => by
   obtain ⟨q1, q2⟩ := hcl c bb hc hb
   exact k2.block bb (H.hasK q1).2.1 fun z => q2 z.symm
 refine ⟨(A.set b p' (l.length + m.length) c' 0).setF b g, H.swap hag (S' := S) K (fun d hd => ⟨none, ?_⟩) hch (fun _ q => q) (fun _ q => .inl q) (fun d z hz => ?_) (fun d d' z z' bb h1 h2 _ _ => ?_), hvb.symm⟩
 · rcases hd with hd | rfl
   · exact List.mem_cons_of_mem _ (List.mem_append_left _ (List.mem_map.2 ⟨d, by rw [hd]; simp, rfl⟩))
   exact List.mem_cons_of_mem _ (List.mem_append_right _ (List.mem_singleton.2 rfl))
 · cases hsub hz
   refine ⟨.inr ⟨_, List.mem_cons_self⟩, tv, rfl, ?_, fun bb hb => ?_⟩
   · show NestAt S w' (((A.set b p' (l.length + m.length) c' 0).setF b g).v b) (((A.set b p' (l.length + m.length) c' 0).setF b g).f b) none e ty ie (l ++ m)
     rw [hvb, Asg.setF_f]
     refine ⟨⟨xs ++ ys, by rw [List.length_append]; exact k1, fun u hu => (List.mem_append.1 hu).elim (x2 u) (i2 u), fun c x hc _ => ?_⟩, fun c d bb h1 h2 _ _ h3 h4 => ?_, fun c bb h1 _ h3 h4 => ?_⟩
     · have hclt := (List.getElem?_eq_some_iff.1 hc).1
       rw [flatC_len] at hclt
       rw [flatC_app] at hc
       have hst := hstay c
       by_cases q : c < l.length * tsz0 ty
       · rw [List.getElem?_append_left (by rw [flatC_len]; exact q)] at hc
         obtain ⟨m1, m2⟩ := x3 c x hc
         rw [List.getElem?_append_left (by rw [x1.1]; exact q)]
         rw [g1 c q] at hst ⊢
         exact ⟨m1, m2.keep hk fun bb hb => hst bb hclt hb⟩
       rw [List.getElem?_append_right (by rw [flatC_len]; omega), flatC_len] at hc
       obtain ⟨m1, m2⟩ := i3 _ x hc (by simp)
       rw [List.getElem?_append_right (by rw [x1.1]; omega), x1.1]
       rw [g2 c (by omega)] at hst ⊢
       exact ⟨m1, m2.keep hk fun bb hb => hst bb hclt hb⟩
     · rw [hll] at h1 h2
       by_cases q1 : c < l.length * tsz0 ty <;> by_cases q2 : d < l.length * tsz0 ty
       · rw [g1 c q1] at h3; rw [g1 d q2] at h4; exact hinj c d bb q1 q2 h3 h4
       · rw [g1 c q1] at h3; rw [g2 d (by omega)] at h4; exact (hapart bb (.inr ⟨c, q1, h3⟩) _ (by omega) h4).elim
       · rw [g2 c (by omega)] at h3; rw [g1 d q2] at h4; exact (hapart bb (.inr ⟨d, q2, h4⟩) _ (by omega) h3).elim
       rw [g2 c (by omega)] at h3; rw [g2 d (by omega)] at h4
       have := hNi.inj _ _ bb (by omega) (by omega) (by simp) (by simp) h3 h4
       omega
     obtain ⟨q1, q2⟩ := hcl c bb h1 h3
     rcases k3 bb h4 with q | q
     · exact q2 q
     have := (H.hasK q1).2.1; omega
   have hb : (((A.set b p' (l.length + m.length) c' 0).setF b g).v b).ownBlock = some bb ∨ ∃ d, d < (l ++ m).length * tsz0 ty ∧ none ≠ some d ∧ ((((A.set b p' (l.length + m.length) c' 0).setF b g).f b) (ix d)).ownBlock = some bb := hb
   rcases hb with hb | ⟨d, hd, _, hb⟩
   · rw [hvb] at hb
     rcases k3 bb hb with q | q
     · have := hl bb (.inl q)
       exact ⟨.inl this, Nat.lt_of_lt_of_le (H.hasK this).2.1 k2.size⟩
     exact ⟨.inr q.1, q.2⟩
   rw [Asg.setF_f] at hb
   have := (hcl d bb hd hb).1
   exact ⟨.inl this, Nat.lt_of_lt_of_le (H.hasK this).2.1 k2.size⟩
 cases hsub h1; cases hsub h2; rfl
theorem flat1_ok {ie : TypeId} {x : Cel} {c : Sc} (h : flat1 x c = true) (hc : CelOk T w (c.den A) x) : (∀ i, c ≠ .own i) ∧ OCel S w ie (c.den A) x ∧ (c.den A).oneCell' = true ∧ ∀ bb, (c.den A).ownBlock ≠ some bb := by
 unfold flat1 at h
 split at h
 · rename_i t l
   have hl : l = [] := by
     obtain ⟨p, cc, e, _⟩ := slice_header (rd_slice (show Rd T w (.slice none 0 0) l from hc))
     injection e with _ e2 _
     exact List.eq_nil_of_length_eq_zero e2.symm
   subst hl
   exact ⟨(fun i q => by cases q), OwnD.nil, rfl, fun bb q => by cases q⟩
 · exact ⟨(fun i q => by cases q), ⟨hc, rfl⟩, rfl, fun bb q => by cases q⟩
 · exact ⟨(fun i q => by cases q), ⟨hc, rfl⟩, rfl, fun bb q => by cases q⟩
 · exact ⟨(fun i q => by cases q), ⟨hc, rfl⟩, rfl, fun bb q => by cases q⟩
 cases h
theorem nestL_run (H : OkF o n A S F s r a w) {ie : TypeId} : ∀ {cs : List Cel} {l : List Sc} {k : List Prop → List Nat → Tr Out} {out : Out}, (nestL ie cs l k).run s r = some out → CelsOk T w (l.map (Sc.den A)) cs →
   ∃ ps ks, (k ps ks).run s r = some out ∧ ((∀ p ∈ ps, p) → (∀ i ∈ ks, ∃ x, r i = some x) ∧ (∀ (d : Nat) (x : Cel) (c : Sc), cs[d]? = some x → l[d]? = some c → OCel S w ie (c.den A) x ∧ (c.den A).oneCell' = true ∧ ∀ bb, (c.den A).ownBlock = some bb → ∃ i x, c = .own i ∧ i ∈ ks ∧ r i = some x ∧ (x.den A i).has bb)) ∧
     (∀ (d i : Nat), l[d]? = some (Sc.own i) → i ∈ ks) ∧ ∀ (d d' i : Nat), l[d]? = some (Sc.own i) → l[d']? = some (Sc.own i) → d = d' := by
 intro cs
 induction cs with
 | nil =>
   intro l k out h hc
   cases l with
   | nil => exact ⟨[], [], h, fun _ => ⟨fun _ q => (by cases q), fun d x c q => by simp at q⟩, fun d i q => by simp at q, fun d d' i q => by simp at q⟩
   | cons _ _ => cases h
 | cons x cs ih =>
   intro l k out h hc
   cases l with
   | nil => cases h
   | cons c l =>
     have hc1 : CelOk T w (c.den A) x := hc.1
     simp only [nestL] at h
     split at h
     · rename_i i
       split at h
       · rename_i t' l'
         obtain ⟨z, hz, h⟩ := res_run h
         split at h
         · rename_i ie' ty m
           split at h
           · rename_i m' hm
             obtain ⟨hg, h⟩ := guardT_run h
             have := beq_t hg; subst this
             obtain ⟨e, hm2⟩ := castEl_ok hm
             have e : ty = t' := by injection e
             subst e
             have hm2 : m = m' := hm2
             subst hm2
             obtain ⟨ps, ks, q1, q2, q5, q4⟩ := ih h hc.2
             obtain ⟨hg2, q1⟩ := guardT_run q1
             have hO : OwnD S w ie' (A.v i) m := H.frm.ok i (rowRs ie' (A.v i) m) (by show (r i).map _ = _; rw [hz]; rfl)
             have hno : ∀ (d : Nat), l[d]? = some (Sc.own i) → False := fun d hd => by
               have := List.all_eq_true.1 hg2 _ (q5 d i hd)
               simp at this
             refine ⟨_, i :: ks, q1, fun hp => ?_, fun d i' e1 => ?_, fun d d' i' e1 e2 => ?_⟩
             · have hml : m = l' := hp _ List.mem_cons_self
               subst hml
               obtain ⟨q2, q3⟩ := q2 fun p hpp => hp p (List.mem_cons_of_mem _ hpp)
               refine ⟨fun i' hi' => ?_, fun d x' c' e1 e2 => ?_⟩
               · rcases List.mem_cons.1 hi' with rfl | hi'
                 · exact ⟨_, hz⟩
                 exact q2 i' hi'
               cases d with
               | zero =>
                 simp only [List.getElem?_cons_zero, Option.some.injEq] at e1 e2
                 subst e1; subst e2
                 exact ⟨hO, rfl, fun bb hb => ⟨i, _, rfl, List.mem_cons_self, hz, hb⟩⟩
               | succ d =>
                 simp only [List.getElem?_cons_succ] at e1 e2
                 obtain ⟨z1, z2, z3⟩ := q3 d x' c' e1 e2
                 exact ⟨z1, z2, fun bb hb => let ⟨i', x, y1, y2, y3⟩ := z3 bb hb; ⟨i', x, y1, List.mem_cons_of_mem _ y2, y3⟩⟩
             · cases d with
               | zero => simp only [List.getElem?_cons_zero, Option.some.injEq, Sc.own.injEq] at e1; subst e1; exact List.mem_cons_self
               | succ d => simp only [List.getElem?_cons_succ] at e1; exact List.mem_cons_of_mem _ (q5 d i' e1)
             cases d with
             | zero =>
               cases d' with
               | zero => rfl
               | succ d' =>
                 simp only [List.getElem?_cons_zero, List.getElem?_cons_succ, Option.some.injEq, Sc.own.injEq] at e1 e2
                 subst e1; exact (hno d' e2).elim
             | succ d =>
               cases d' with
               | zero =>
                 simp only [List.getElem?_cons_zero, List.getElem?_cons_succ, Option.some.injEq, Sc.own.injEq] at e1 e2
                 subst e2; exact (hno d e1).elim
               | succ d' => simp only [List.getElem?_cons_succ] at e1 e2; rw [q4 d d' i' e1 e2]
           cases h
         cases h
       cases h
     obtain ⟨hf, h⟩ := guardT_run h
     obtain ⟨hne, hO, h1, hno⟩ := flat1_ok (ie := ie) (S := S) hf hc1
     obtain ⟨ps, ks, q1, q2, q5, q4⟩ := ih h hc.2
     refine ⟨ps, ks, q1, fun hp => ?_, fun d i e1 => ?_, fun d d' i e1 e2 => ?_⟩
     · obtain ⟨q2, q3⟩ := q2 hp
       refine ⟨q2, fun d x' c' e1 e2 => ?_⟩
       cases d with
       | zero =>
         simp only [List.getElem?_cons_zero, Option.some.injEq] at e1 e2
         subst e1; subst e2
         exact ⟨hO, h1, fun bb hb => (hno bb hb).elim⟩
       | succ d => simp only [List.getElem?_cons_succ] at e1 e2; exact q3 d x' c' e1 e2
     · cases d with
       | zero => simp only [List.getElem?_cons_zero, Option.some.injEq] at e1; exact (hne i e1).elim
       | succ d => simp only [List.getElem?_cons_succ] at e1; exact q5 d i e1
     cases d with
     | zero => simp only [List.getElem?_cons_zero, Option.some.injEq] at e1; exact (hne i e1).elim
     | succ d =>
       cases d' with
       | zero => simp only [List.getElem?_cons_zero, Option.some.injEq] at e2; exact (hne i e2).elim
       | succ d' => simp only [List.getElem?_cons_succ] at e1 e2; rw [q4 d d' i e1 e2]
theorem lit_run {op : Oper} {t len : Nat} {parts : Array (Nat × Operand)} {ys : List Sy} (ho : op.op = .buildSlice t len parts) (hargs : parts.toList.map (fun p => a.eval p.2) = ys.map (Sy.den A)) {u : Value}
   (hrun : (litHid P t len (P.elem t) ((parts.toList.map (·.1)).zip ys) (ys.flatMap syCells)).lhs A w = .ok u w') : (execOp a.eval op).run P w = .ok (.value u) w' := by
 simp only [litHid] at hrun
 have ep : parts.map (fun x => (x.1, a.eval x.2)) = (((parts.toList.map (·.1)).zip ys).map fun y => (y.1, y.2.den A)).toArray := by
   apply Array.ext'
   rw [Array.toList_map]
   show _ = ((parts.toList.map (·.1)).zip ys).map fun y => (y.1, y.2.den A)
   have : (((parts.toList.map (·.1)).zip ys).map fun y => (y.1, y.2.den A)) = (parts.toList.map (·.1)).zip (ys.map (Sy.den A)) := by
     rw [List.zip_map_right]
     rfl
   rw [this, ← hargs, List.zip_map']
 rw [← ep] at hrun
 simp only [execOp, ho, Sem.run_bind]
 rw [show (Array.map (fun x => match x with | (i, x) => (i, a.eval x)) parts) = parts.map (fun x => (x.1, a.eval x.2)) from rfl, hrun]
 rfl
theorem litN_step {B : Nat} (H : OkF o n A S F s r a w) (hF : ∀ j, b ≤ j → j < B → ¬ F j) {op : Oper} {t len : Nat} {parts : Array (Nat × Operand)} {ys : List Sy} {md : Bool} {out : Out} (ho : op.op = .buildSlice t len parts) (hargs : parts.toList.map (fun p => a.eval p.2) = ys.map (Sy.den A)) 
   (h : (litT2 P md b t len (parts.toList.map (·.1)) ys).run s r = some out) (hcs : ∀ p ∈ out.cs, p) (hhs : ∀ h ∈ out.hs, ∀ A w, h.lhs A w = h.rhs A w) (hB : ∀ p ∈ out.re, p.1 < B)
   {K : Act → World → Prop} {Q : Exit → Act → World → Prop} (k : ∀ v w', After o n F s r a out v w' → K (a.put op.dst v) w') : op.wp P a w K Q := by
 classical
 cases md with
 | false => exact lit_step H hF ho hargs h hhs hB k
 | true =>
   simp only [litT2] at h
   split at h
   · rename_i ty ie hty hie
     obtain ⟨hg, h⟩ := guardT_run h
     simp only [Bool.and_eq_true] at hg
     obtain ⟨⟨hr, ⟨hl1, hl2⟩, hel⟩, hle⟩ := hg
     have hl1 := beq_t hl1; have hl2 := beq_t hl2; have hle := Nat.le_of_ble_eq_true hle
     obtain ⟨l, hll, hrow, hcels, h⟩ := gathAll_run (T := (· < w.heap.size)) (fun c _ j _ => reads_any H j) h
     obtain ⟨ps, ks, h, q1, q2, q3⟩ := nestL_run H h hcels
     have e := ret_run h
     subst e
     obtain ⟨q4, q5⟩ := q1 hcs
     have hrun := hhs _ (List.mem_singleton.2 rfl) A w
     have e2 := lit_run (P := P) (w := w) ho hargs (hrun.trans rfl)
     refine wp_value e2 (k _ _ ?_)
     have hlen : l.length = len := by rw [hll, hl2]
     have hFb : ¬ F b := hF b (Nat.le_refl _) (hB _ List.mem_cons_self)
     generalize hcsl : ys.flatMap syCells = cl at *
     let g : Lit → Value := fun x => match x with
       | .int _ z => (cl.map (Sc.den A)).getD z.toNat undef
       | _ => undef
     have hg : ∀ d c, cl[d]? = some c → g (ix d) = c.den A := fun d c hc => by
       show (cl.map (Sc.den A)).getD (d : Int).toNat undef = _
       rw [Int.toNat_natCast, List.getD_eq_getElem?_getD, List.getElem?_map, hc]; rfl
     have hag : Agr F A ((A.set b (some ⟨w.heap.size, 0, none⟩) len len 0).setF b g) := (Agr.set hFb _ _ _ _).trans (Agr.setF hFb g)
     have hvb : ((A.set b (some ⟨w.heap.size, 0, none⟩) len len 0).setF b g).v b = .slice (some ⟨w.heap.size, 0, none⟩) len len := Asg.set_v A b (some ⟨w.heap.size, 0, none⟩) len len 0
     let K : Nat → Prop := fun c => c ∈ ks
     have hcllen : cl.length = l.length * tsz0 ty := by
       have := hcels.len
       rw [List.length_map, flatC_len] at this; exact this
     have hget : ∀ d, d < l.length * tsz0 ty → ∃ c x, cl[d]? = some c ∧ (flatC ty l)[d]? = some x := fun d hd => ⟨cl[d], (flatC ty l)[d]'(by rw [flatC_len]; exact hd), List.getElem?_eq_getElem (by omega), List.getElem?_eq_getElem (by rw [flatC_len]; exact hd)⟩
     have hown : ∀ d bb, d < l.length * tsz0 ty → (g (ix d)).ownBlock = some bb → ∃ i x, cl[d]? = some (.own i) ∧ i ∈ ks ∧ r i = some x ∧ (x.den A i).has bb := fun d bb hd hb => by
       obtain ⟨c, x, hc, hx⟩ := hget d hd
       rw [hg d c hc] at hb
       obtain ⟨_, _, z⟩ := q5 d x c hx hc
       obtain ⟨i, y, y1, y2, y3, y4⟩ := z bb hb
       exact ⟨i, y, by rw [hc, y1], y2, y3, y4⟩
     have hhas : ∀ d bb, d < l.length * tsz0 ty → (g (ix d)).ownBlock = some bb → HasK A r K bb := fun d bb hd hb => let ⟨i, x, _, y2, y3, y4⟩ := hown d bb hd hb; ⟨i, x, y2, y3, y4⟩
     have hch : Chg w (w.alloc (.cells (cl.map (Sc.den A)).toArray (P.elem t))) (HasK A r K) := (Chg.below (H := fun _ => False) (below_new w _)).mono fun _ q => q.elim
     have hk := H.keepS hch
     have hsub : ∀ {d : Nat} {z : R2}, (d, some z) ∈ (b, some (.ext (.nest b none (P.elem t) ty ie l))) :: (ks.map fun k => (k, (none : Option R2))) → (d, some z) = (b, some (.ext (.nest b none (P.elem t) ty ie l))) := fun hz => by
       rcases List.mem_cons.1 hz with hz | hz
       · exact hz
       obtain ⟨_, _, q⟩ := List.mem_map.1 hz; cases q
     refine ⟨(A.set b (some ⟨w.heap.size, 0, none⟩) len len 0).setF b g, S, H.swap hag (S' := S) K (fun d hd => ⟨none, List.mem_cons_of_mem _ (List.mem_map.2 ⟨d, hd, rfl⟩)⟩) hch (fun _ q => q) (fun _ q => .inl q) (fun d z hz => ?_) (fun d d' z z' bb h1 h2 _ _ => by cases hsub h1; cases hsub h2; rfl), hvb.symm, .inr ⟨_, List.mem_cons_self⟩, tv⟩
     cases hsub hz
     refine ⟨.inr ⟨_, List.mem_cons_self⟩, tv, rfl, ?_, fun bb hb => ?_⟩
     · show NestAt S _ (((A.set b (some ⟨w.heap.size, 0, none⟩) len len 0).setF b g).v b) (((A.set b (some ⟨w.heap.size, 0, none⟩) len len 0).setF b g).f b) none (P.elem t) ty ie l
       rw [hvb, Asg.setF_f]
       refine ⟨⟨cl.map (Sc.den A), ⟨by rw [List.length_map, hcllen], .inr ⟨w.heap.size, 0, len, _, by rw [Nat.zero_mul, hlen], heap_alloc_new w _, by omega, by simp only [maxLen]; omega, by simp [hcllen, hlen], ?_⟩⟩, fun u hu => ?_, fun d x hd _ => ?_⟩, fun c d bb h1 h2 _ _ h3 h4 => ?_, fun c bb h1 _ h3 h4 => ?_⟩
       · rw [Nat.zero_mul, List.drop_zero, ← hcllen, List.toList_toArray, ← List.length_map (f := Sc.den A), List.take_length]
       · obtain ⟨c, hc, rfl⟩ := List.mem_map.1 hu
         obtain ⟨d, hd⟩ := List.mem_iff_getElem?.1 hc
         have hdl := (List.getElem?_eq_some_iff.1 hd).1
         obtain ⟨_, x, _, hx⟩ := hget d (by omega)
         exact (q5 d x c hx hd).2.1
       · have hdl := (List.getElem?_eq_some_iff.1 hd).1
         rw [flatC_len] at hdl
         obtain ⟨c, _, hc, _⟩ := hget d hdl
         obtain ⟨z1, _, _⟩ := q5 d x c hd hc
         rw [hg d c hc]
         refine ⟨by rw [List.getElem?_map, hc]; rfl, z1.keep hk fun bb hb => ?_⟩
         exact heap_alloc_old w _ (H.hasK (hhas d bb hdl (by rw [hg d c hc]; exact hb))).2.1
       · obtain ⟨i, x, y1, y2, y3, y4⟩ := hown c bb h1 h3
         obtain ⟨i', x', z1, z2, z3, z4⟩ := hown d bb h2 h4
         have := H.frm.apart i i' _ _ bb (show memF A r i = some (x.den A i) by simp [memF, y3]) (show memF A r i' = some (x'.den A i') by simp [memF, z3]) y4 z4
         subst this
         exact q3 c d i y1 z1
       have := (H.hasK (hhas c bb h1 h3)).2.1
       cases h4
       exact Nat.lt_irrefl _ this
     have hb : (((A.set b (some ⟨w.heap.size, 0, none⟩) len len 0).setF b g).v b).ownBlock = some bb ∨ ∃ d, d < l.length * tsz0 ty ∧ none ≠ some d ∧ ((((A.set b (some ⟨w.heap.size, 0, none⟩) len len 0).setF b g).f b) (ix d)).ownBlock = some bb := hb
     rcases hb with hb | ⟨d, hd, _, hb⟩
     · rw [hvb] at hb; cases hb
       exact ⟨.inr (Nat.le_refl _), by simp⟩
     rw [Asg.setF_f] at hb
     have := hhas d bb hd hb
     exact ⟨.inl this, Nat.lt_of_lt_of_le (H.hasK this).2.1 hch.size⟩
   cases h
end
section
variable {P : Program} {o : OrgG} {n : Nat} {A A' : Asg} {S S' T : Stab} {F G : Nat → Prop} {s : Nat → Option E2} {r : Nat → Option R2} {a : Act} {w w' : World} {C : List (Nat × Bool)} {b : Nat}
theorem nmapPut (H : OkF o n A S F s r a w) (hF : ¬ F b) {j qf : Nat} {kc : Kc} {hh : Option (KEl kc)} {ty : Ty} {ie : TypeId} {m : MapD kc (List (El ty))} (hj : r j = some (.ext (.nmap qf kc hh ty ie m))) {kx : KEl kc} (hho : holeK hh kx)
   {t kt et : TypeId} (hu : P.underlying t = some (.map kt et)) (hk : P.underlying kt = some (kdesc kc)) (hw : kwf kc kx) (hlen : (show List (KEl kc × List (El ty)) from m).length ≤ 2147483647) {v : Value} {l : List (El ty)} (hO : OwnD S w ie v l)
   {ks : List Nat} (hne : ∀ i ∈ ks, i ≠ j) (hks : ∀ c, v.ownBlock = some c → HasK A r (fun i => i ∈ ks) c) :
   ∃ w', (Instr.mapUpdate t (.map (A.m j)) (kval kc kx) v).run P w = .ok () w' ∧ ∃ A', Agr F A A' ∧ OkF o n A' S (FU F ((j, some (.ext (.nmap b kc none ty ie (putK (show List (KEl kc × List (El ty)) from m) kx l)))) :: (b, none) :: ks.map fun i => (i, none))) s (setM r ((j, some (.ext (.nmap b kc none ty ie (putK (show List (KEl kc × List (El ty)) from m) kx l)))) :: (b, none) :: ks.map fun i => (i, none))) a w' := by
 classical
 have hm : memF A r j = some ((X2.nmap qf kc hh ty ie m).den A j) := by show (r j).map _ = _; rw [hj]; rfl
 obtain ⟨blk, hb, N⟩ : ∃ blk, A.m j = some blk ∧ NMapAt S w blk (A.f qf) hh ie m := H.frm.ok j _ hm
 obtain ⟨zs, n1, n2, n3⟩ := N.map
 obtain ⟨w', hrun, ho', hG, hsz⟩ := n1.put hu hk (by rw [List.length_map]; rw [n2] at hlen; simpa using hlen) hw v
 refine ⟨w', by rw [hb]; exact hrun, ?_⟩
 let g : Lit → Value := fun x => if x = klit kc kx then v else A.f qf x
 have gc : g (klit kc kx) = v := if_pos rfl
 have gn : ∀ y, y ≠ kx → g (klit kc y) = A.f qf (klit kc y) := fun y hy => if_neg fun q => hy (klit_inj kc q)
 have hag : Agr F A (A.setF b g) := Agr.setF hF g
 let K : Nat → Prop := fun c => c = j ∨ c ∈ ks
 have hne' : ∀ y, y ≠ kx → hh ≠ some y := fun y hy q => by subst q; exact hy hho
 have hvK : ∀ c, v.ownBlock = some c → HasK A r K c := fun c hc => let ⟨i, x, h1, h2, h3⟩ := hks c hc; ⟨i, x, .inr h1, h2, h3⟩
 have hoK : ∀ y c, y ≠ kx → (A.f qf (klit kc y)).ownBlock = some c → HasK A r K c := fun y c hy hc => ⟨j, _, .inl rfl, hj, .inr ⟨y, hne' y hy, hc⟩⟩
 have hbK : HasK A r K blk := ⟨j, _, .inl rfl, hj, .inl hb⟩
 have hap : ∀ c, v.ownBlock = some c → ((R2.ext (.nmap qf kc hh ty ie m)).den A j).has c → False := fun c hc h2 => by
   obtain ⟨i, x, h3, h4, h5⟩ := hks c hc
   exact hne i h3 (H.frm.apart i j _ _ c (show memF A r i = some (x.den A i) by simp [memF, h4]) hm h5 h2)
 have hch : Chg w w' (HasK A r K) := (Chg.of hG).mono fun c hc => by
   have hc : some blk = some c := hc
   cases hc; exact hbK
 have hkS := H.keepS hch
 have hstay : ∀ c, c ≠ blk → HasK A r K c → w'.heap[c]? = w.heap[c]? := fun c hc hK => hG.block c (H.hasK hK).2.1 fun q => hc (by cases q; rfl)
 have hsub : ∀ {d : Nat} {z : R2}, (d, some z) ∈ (j, some (.ext (.nmap b kc none ty ie (putK (show List (KEl kc × List (El ty)) from m) kx l)))) :: (b, none) :: (ks.map fun i => (i, (none : Option R2))) → (d, some z) = (j, some (.ext (.nmap b kc none ty ie (putK (show List (KEl kc × List (El ty)) from m) kx l)))) := fun hz => by
   rcases List.mem_cons.1 hz with hz | hz
   · exact hz
   rcases List.mem_cons.1 hz with hz | hz
   · cases hz
   obtain ⟨_, _, q⟩ := List.mem_map.1 hz; cases q
 refine ⟨A.setF b g, hag, H.swap hag (S' := S) K (fun d hd => ?_) hch (fun _ q => q) (fun _ q => .inl q) (fun d z hz => ?_) (fun d d' z z' bb h1 h2 _ _ => by cases hsub h1; cases hsub h2; rfl)⟩
 · rcases hd with rfl | hd
   · exact ⟨_, List.mem_cons_self⟩
   exact ⟨none, List.mem_cons_of_mem _ (List.mem_cons_of_mem _ (List.mem_map.2 ⟨d, hd, rfl⟩))⟩
 cases hsub hz
 refine ⟨.inr ⟨none, List.mem_cons_of_mem _ List.mem_cons_self⟩, tv, rfl, ?_, fun c hc => ?_⟩
 · show ∃ bb, (A.setF b g).m j = some bb ∧ NMapAt S w' bb ((A.setF b g).f b) none ie (putK (show List (KEl kc × List (El ty)) from m) kx l)
   rw [Asg.setF_f]
   refine ⟨blk, hb, ⟨putK zs kx (v, l), by rw [map_putK (fun y : Value × List (El ty) => y.1)]; exact ho', by rw [map_putK (fun y : Value × List (El ty) => y.2), n2], fun z hz _ => ?_⟩, fun y hy _ => ?_, fun x y c _ _ h1 h2 => ?_, fun x c _ h1 h2 => ?_⟩
   · rcases mem_putK.1 hz with rfl | ⟨hz, hne2⟩
     · exact ⟨gc.symm, hO.keep hkS fun c hc => hstay c (fun q => by subst q; exact hap _ hc (.inl hb)) (hvK c hc)⟩
     obtain ⟨m1, m2⟩ := n3 z hz (hne' _ hne2)
     refine ⟨by rw [gn _ hne2]; exact m1, m2.keep hkS fun c hc => ?_⟩
     rw [m1] at hc
     exact hstay c (fun q => N.out z.1 c (hne' _ hne2) hc q) (hoK _ c hne2 hc)
   · rw [lookK_put] at hy
     split at hy
     · cases hy
     rename_i hxy
     rw [gn y fun q => hxy q.symm]
     exact N.non y hy (hne' y fun q => hxy q.symm)
   · by_cases q1 : x = kx <;> by_cases q2 : y = kx
     · rw [q1, q2]
     · subst q1; rw [gc] at h1; rw [gn y q2] at h2
       exact (hap c h1 (.inr ⟨y, hne' y q2, h2⟩)).elim
     · subst q2; rw [gc] at h2; rw [gn x q1] at h1
       exact (hap c h2 (.inr ⟨x, hne' x q1, h1⟩)).elim
     rw [gn x q1] at h1; rw [gn y q2] at h2
     exact N.inj x y c (hne' x q1) (hne' y q2) h1 h2
   by_cases q : x = kx
   · subst q; rw [gc] at h1; subst h2; exact hap _ h1 (.inl hb)
   rw [gn x q] at h1; exact N.out x c (hne' x q) h1 h2
 have hc : (A.setF b g).m j = some c ∨ ∃ x, none ≠ some x ∧ (((A.setF b g).f b) (klit kc x)).ownBlock = some c := hc
 have hres : HasK A r K c := by
   rcases hc with hc | ⟨x, _, hc⟩
   · have hc : A.m j = some c := hc
     rw [hb] at hc; cases hc; exact hbK
   rw [Asg.setF_f] at hc
   by_cases q : x = kx
   · subst q; rw [gc] at hc; exact hvK c hc
   rw [gn x q] at hc; exact hoK x c q hc
 exact ⟨.inl hres, Nat.lt_of_lt_of_le (H.hasK hres).2.1 hch.size⟩
theorem putN_step {B : Nat} (H : OkF o n A S F s r a w) (hF : ∀ j, b ≤ j → j < B → ¬ F j) {op : Oper} {t : TypeId} {m x y : Operand} {p q z : Sy} {out : Out} (ho : op.op = .mapUpdate t m x y ∨ op.op = .insert t m x y) (hm : a.eval m = p.den A) (hx : a.eval x = q.den A) (hy : a.eval y = z.den A)
   (h : (putNT P b t p q z).run s r = some out) (hcs : ∀ p ∈ out.cs, p) (hB : ∀ p ∈ out.re, p.1 < B) {K : Act → World → Prop} {Q : Exit → Act → World → Prop} (k : ∀ v w', After o n F s r a out v w' → K (a.put op.dst v) w') : op.wp P a w K Q := by
 unfold putNT at h
 split at h
 · rename_i kt et j hu
   obtain ⟨R, hR, h2⟩ := res_run h
   split at h2
   · rename_i qf kc hh ty ie mm
     split at h2
     · rename_i kx hkx
       obtain ⟨hk, h3⟩ := guardT_run h2
       clear h2
       have hk := kindB_ok hk
       have hq : q.den A = kval kc kx := keySc_ok hkx
       have fin : ∀ {v : Value} {l : List (El ty)} {ks : List Nat}, OwnD S w ie v l → (∀ i ∈ ks, i ≠ j) → (∀ c, v.ownBlock = some c → HasK A r (fun i => i ∈ ks) c) → a.eval y = v →
           out = ⟨[kwf kc kx, holeK hh kx, (show List (KEl kc × List (El ty)) from mm).length ≤ 2147483647], [], .one (.v undef), (j, some (.ext (.nmap b kc none ty ie (putK (show List (KEl kc × List (El ty)) from mm) kx l)))) :: (b, none) :: ks.map fun i => (i, none)⟩ → op.wp P a w K Q := by
         intro v l ks hO h1 h2 hv e
         subst e
         obtain ⟨w', hrun, A', _, H2⟩ := nmapPut (P := P) H (hF b (Nat.le_refl _) (hB (b, none) (List.mem_cons_of_mem _ List.mem_cons_self))) hR (hcs _ (List.mem_cons_of_mem _ List.mem_cons_self)) hu hk (hcs _ List.mem_cons_self) (hcs _ (List.mem_cons_of_mem _ (List.mem_cons_of_mem _ List.mem_cons_self))) hO h1 h2
         have hrun' : (execOp a.eval op).run P w = .ok .skip w' := by
           have hm : a.eval m = .map (A.m j) := hm
           rcases ho with ho | ho <;> (simp only [execOp, ho, Sem.run_bind, hm, hx, hv, hq, hrun]; rfl)
         unfold Oper.wp
         rw [hrun']
         exact k undef _ ⟨A', S, H2, rfl, tv, tv⟩
       split at h3
       · rename_i i
         obtain ⟨Z, hZ, h3⟩ := res_run h3
         split at h3
         · rename_i ie' ty' l
           split at h3
           · rename_i l' hl
             obtain ⟨hg, h4⟩ := guardT_run h3
             clear h3
             rw [Bool.and_eq_true] at hg
             have := beq_t hg.1; subst this
             obtain ⟨e, hl2⟩ := castEl_ok hl
             have e : ty' = ty := by injection e
             subst e
             have hl2 : l = l' := hl2
             subst hl2
             have e := ret_run h4
             refine fin (ks := [i]) (H.frm.ok i (rowRs ie' (A.v i) l) (by show (r i).map _ = _; rw [hZ]; rfl)) (fun i' hi' q => ?_) (fun c hc => ⟨i, _, List.mem_singleton.2 rfl, hZ, hc⟩) hy e
             rw [List.mem_singleton] at hi'
             subst hi'; subst q
             simp at hg
           cases h3
         cases h3
       · have e := ret_run h3
         exact fin (ks := []) OwnD.nil (fun _ q => by cases q) (fun c q => by cases q) hy e
       cases h3
     cases h2
   exact putM_step H ho tv hm hx hy h2 hcs k
 cases h
theorem makeMN_step {B : Nat} (H : OkF o n A S F s r a w) (hF : ∀ j, b ≤ j → j < B → ¬ F j) {op : Oper} {t : TypeId} {x : Option Operand} {md : Bool} {out : Out} (ho : op.op = .makeMap t x) (hx : ∀ y, x = some y → ∃ k m, a.eval y = .int k m)
   (h : (makeMapT2 P md b t).run s r = some out) (hB : ∀ p ∈ out.re, p.1 < B) {K : Act → World → Prop} {Q : Exit → Act → World → Prop} (k : ∀ v w', After o n F s r a out v w' → K (a.put op.dst v) w') : op.wp P a w K Q := by
 cases md with
 | false => exact makeM_step H hF ho hx h hB k
 | true =>
   simp only [makeMapT2] at h
   split at h
   · rename_i kt et kc ty hu hc
     split at h
     · rename_i ie hie
       obtain ⟨hk, h⟩ := guardT_run h
       have hk := kindB_ok hk
       have e := ret_run h
       subst e
       have e2 : (execOp a.eval op).run P w = .ok (.value (.map (some w.heap.size))) (w.alloc (.map #[] 0)) := by
         cases x with
         | none =>
           simp only [execOp, ho, Sem.run_bind, Option.map_none, run_makeMap]
           rfl
         | some y =>
           obtain ⟨ik, m, hy⟩ := hx y rfl
           simp [execOp, ho, Sem.run_bind, Option.map_some, hy, Instr.makeMap, run_underlying hu, asInt, asIntOf, newObj, Result.andThen, Sem.run, Sem.run_pure]
       have hFb := hF b (Nat.le_refl _) (hB _ (List.mem_singleton.2 rfl))
       let g : Lit → Value := fun _ => .slice none 0 0
       have hag : Agr F A ((A.setM b (some w.heap.size)).setF b g) := (Agr.setM hFb _).trans (Agr.setF hFb g)
       have hm : ((A.setM b (some w.heap.size)).setF b g).m b = some w.heap.size := Asg.setM_m A b (some w.heap.size)
       have hch : Chg w (w.alloc (.map #[] 0)) (HasK A r fun _ => False) := (Chg.below (H := fun _ => False) (below_new w _)).mono fun _ q => q.elim
       refine wp_value e2 (k _ _ ⟨(A.setM b (some w.heap.size)).setF b g, S, H.swap hag (S' := S) (fun _ => False) (fun _ q => q.elim) hch (fun _ q => q) (fun _ q => .inl q) (fun d z hz => ?_) (fun d d' z z' bb h1 h2 _ _ => by cases List.mem_singleton.1 h1; cases List.mem_singleton.1 h2; rfl), ?_, .inr ⟨_, List.mem_singleton.2 rfl⟩, tv⟩)
       · cases List.mem_singleton.1 hz
         refine ⟨.inr ⟨_, List.mem_singleton.2 rfl⟩, tv, rfl, ⟨w.heap.size, hm, ?_⟩, fun c hc => ?_⟩
         · rw [Asg.setF_f]
           exact ⟨⟨[], OwnsK.new w hk, rfl, fun _ q => by cases q⟩, fun x _ _ => rfl, fun x y c _ _ q => (by cases q), fun x c _ q => (by cases q)⟩
         rcases hc with hc | ⟨x, _, hc⟩
         · have hc : ((A.setM b (some w.heap.size)).setF b g).m b = some c := hc
           rw [hm] at hc; cases hc
           exact ⟨.inr (Nat.le_refl _), by simp⟩
         rw [Asg.setF_f] at hc; cases hc
       show _ = Value.map (((A.setM b (some w.heap.size)).setF b g).m b)
       rw [hm]
     cases h
   cases h
theorem intOp_run {α : Type 1} (H : OkF o n A S F s r a w) (hC : chOk a C) {x : Option Operand} {k : Option Int → Tr α} {out : α} (h : (intOp C x k).run s r = some out) : ∃ i, x.map a.eval = i.map (Value.int .i64) ∧ (k i).run s r = some out := by
 cases x with
 | none => exact ⟨none, rfl, h⟩
 | some x =>
   obtain ⟨y, e1, e2, e3, h1⟩ := opd_run H hC h
   clear h e2 e3
   split at h1
   · rename_i m
     exact ⟨some m, by rw [Option.map_some, e1]; rfl, h1⟩
   cases h1
def cutLo (i : Option Int) : Nat := (i.getD 0).toNat
def cutHi (n : Nat) (k : Option Int) : Nat := match k with
 | none => n
 | some k => k.toNat
theorem cutP_ok {n : Nat} : ∀ {i k : Option Int}, cutP n i k → cutLo i ≤ cutHi n k ∧ cutHi n k ≤ n
 | none, none, _ => ⟨Nat.zero_le _, Nat.le_refl _⟩
 | some lo, none, h => by obtain ⟨h1, h2⟩ : 0 ≤ lo ∧ lo ≤ (n : Int) := h; exact ⟨by show lo.toNat ≤ n; omega, Nat.le_refl _⟩
 | none, some hi, h => by obtain ⟨h1, h2⟩ : 0 ≤ hi ∧ hi ≤ (n : Int) := h; exact ⟨Nat.zero_le _, by show hi.toNat ≤ n; omega⟩
 | some lo, some hi, h => by obtain ⟨h1, h2, h3⟩ : 0 ≤ lo ∧ lo ≤ hi ∧ hi ≤ (n : Int) := h; exact ⟨by show lo.toNat ≤ hi.toNat; omega, by show hi.toNat ≤ n; omega⟩
theorem cutL_eq {α : Type} {l : List α} : ∀ {i k : Option Int}, cutP l.length i k → cutL l i k = (l.drop (cutLo i)).take (cutHi l.length k - cutLo i)
 | none, none, _ => by show l = (l.drop 0).take (l.length - 0); simp
 | some lo, none, h => by show l.drop lo.toNat = (l.drop lo.toNat).take (l.length - lo.toNat); rw [List.take_of_length_le (by rw [List.length_drop]; exact Nat.le_refl _)]
 | none, some hi, h => by show l.take hi.toNat = (l.drop 0).take (hi.toNat - 0); simp
 | some lo, some hi, h => by show (l.take hi.toNat).drop lo.toNat = (l.drop lo.toNat).take (hi.toNat - lo.toNat); rw [List.drop_take]
theorem cutL_len {α : Type} {l : List α} {i k : Option Int} (h : cutP l.length i k) : (cutL l i k).length = cutHi l.length k - cutLo i := by
 rw [cutL_eq h, List.length_take, List.length_drop]
 have := cutP_ok h
 omega
theorem slice_run {t : TypeId} {size : Nat} (ht : P.underlying t = some (.slice (P.elem t))) (hs : (P.info? (P.elem t)).map (·.size) = some size) {base : Option Addr} {len cap : Nat} (hlc : len ≤ cap) {i k : Option Int} (h : cutP len i k) :
   (Instr.sliceAt t (.slice base len cap) (i.map (Value.int .i64)) (k.map (Value.int .i64)) none).run P w = .ok (sliced base (cutLo i) (cutHi len k) cap size) w := by
 obtain ⟨inf, hinf, rfl⟩ := Option.map_eq_some_iff.1 hs
 have hsz : (sizeOf (P.elem t)).run P w = .ok inf.size w := by simp [sizeOf, typeInfo, hinf]
 rw [run_sliceAt_slice w t _ _ _ _ ht]
 match i, k, h with
 | none, none, h => simp only [Option.map_none]; rw [run_slice_all w t base len cap ht, hsz]; rfl
 | some lo, none, h =>
   obtain ⟨h1, h2⟩ : 0 ≤ lo ∧ lo ≤ (len : Int) := h
   simp only [Option.map_none, Option.map_some]; rw [run_slice_l w t base len cap ht .i64 lo h1 h2, hsz]; rfl
 | none, some hi, h =>
   obtain ⟨h1, h2⟩ : 0 ≤ hi ∧ hi ≤ (len : Int) := h
   simp only [Option.map_none, Option.map_some]; rw [run_slice_h w t base len cap ht .i64 hi h1 (by omega), hsz]; rfl
 | some lo, some hi, h =>
   obtain ⟨h1, h2, h3⟩ : 0 ≤ lo ∧ lo ≤ hi ∧ hi ≤ (len : Int) := h
   simp only [Option.map_some]; rw [run_slice_lh w t base len cap ht .i64 .i64 lo hi h1 h2 (by omega), hsz]; rfl
theorem row_cut {α : Type} [Data α] {xs : List Value} {l : List α} {lo hi : Nat} (h : RowRd S w xs l) (h1 : lo ≤ hi) (h2 : hi ≤ l.length) : RowRd S w ((xs.drop (lo * Data.size α)).take ((hi - lo) * Data.size α)) ((l.drop lo).take (hi - lo)) := by
 refine ⟨?_, fun i hi2 => ?_⟩
 · rw [List.length_take, List.length_drop, List.length_take, List.length_drop, h.1, ← Nat.sub_mul]
   have : hi - lo ≤ l.length - lo := by omega
   rw [Nat.min_eq_left (Nat.mul_le_mul_right _ this), Nat.min_eq_left this]
 rw [List.length_take, List.length_drop] at hi2
 have hil : lo + i < l.length := by omega
 have e1 : ((l.drop lo).take (hi - lo))[i]'(by rw [List.length_take, List.length_drop]; exact hi2) = l[lo + i] := by simp
 rw [e1]
 have e2 : ((((xs.drop (lo * Data.size α)).take ((hi - lo) * Data.size α)).drop (i * Data.size α)).take (Data.size α)) = (xs.drop ((lo + i) * Data.size α)).take (Data.size α) := by
   rw [List.drop_take, List.take_take, List.drop_drop, ← Nat.add_mul, Nat.min_eq_left]
   rw [← Nat.sub_mul]
   have : 1 ≤ hi - lo - i := by omega
   calc Data.size α = 1 * Data.size α := (Nat.one_mul _).symm
     _ ≤ _ := Nat.mul_le_mul_right _ this
 rw [e2]
 exact h.2 (lo + i) hil
theorem slice_cut {α : Type} [Data α] {p : Option Addr} {len cap lo hi : Nat} {l : List α} (h : SliceRd T w (.slice p len cap) l) (h1 : lo ≤ hi) (h2 : hi ≤ l.length) : SliceRd T w (sliced p lo hi cap (Data.size α)) ((l.drop lo).take (hi - lo)) := by
 obtain ⟨p', c', e, k1, k2, k3⟩ := h
 cases e
 have hlen : ((l.drop lo).take (hi - lo)).length = hi - lo := by rw [List.length_take, List.length_drop]; omega
 refine ⟨_, cap - lo, by unfold sliced; rw [hlen], by rw [hlen]; omega, by omega, ?_⟩
 rcases k3 with rfl | ⟨g, off, cur, t, fz, rfl, hg, hw, hc⟩
 · exact .inl (by simp)
 by_cases q : cap = lo
 · exact .inl (List.eq_nil_of_length_eq_zero (by rw [hlen]; omega))
 refine .inr ⟨g, off + lo * Data.size α, cur, t, fz, by rw [if_neg q]; simp [Addr.add_lit], hg, hw, fun i hi2 => ?_⟩
 rw [hlen] at hi2
 obtain ⟨cs, q1, q2⟩ := hc (lo + i) (by omega)
 have e1 : ((l.drop lo).take (hi - lo))[i]'(by rw [hlen]; exact hi2) = l[lo + i] := by simp
 refine ⟨cs, by rw [e1]; exact q1, fun j hj => ?_⟩
 rw [← q2 j hj, Nat.add_mul]
 congr 1; omega
theorem slice_step {B : Nat} (H : OkF o n A S F s r a w) (hF : ∀ j, b ≤ j → j < B → ¬ F j) {op : Oper} {t : TypeId} {x : Operand} {lo hi : Option Operand} {p : Sy} {i k' : Option Int} {out : Out} (ho : op.op = .slice t x lo hi none) (hx : a.eval x = p.den A) (hlo : lo.map a.eval = i.map (Value.int .i64)) (hhi : hi.map a.eval = k'.map (Value.int .i64))
   (h : (sliceT P b t i k' p).run s r = some out) (hcs : ∀ p ∈ out.cs, p) (hB : ∀ p ∈ out.re, p.1 < B) {K : Act → World → Prop} {Q : Exit → Act → World → Prop} (k : ∀ v w', After o n F s r a out v w' → K (a.put op.dst v) w') : op.wp P a w K Q := by
 have exec : ∀ {u v : Value}, a.eval x = u → (Instr.sliceAt t u (i.map (Value.int .i64)) (k'.map (Value.int .i64)) none).run P w = .ok v w → (execOp a.eval op).run P w = .ok (.value v) w := by
   intro u v h1 h2
   simp only [execOp, ho, Sem.run_bind, h1, hlo, hhi, Option.map_none, h2]; rfl
 have elem : ∀ {e e' : TypeId} {ty : Ty}, P.underlying t = some (.slice e) → elemB P t e' (tsz0 ty) = true → P.underlying t = some (.slice (P.elem t)) ∧ (P.info? (P.elem t)).map (·.size) = some (tsz0 ty) := fun {e e' ty} hu hg => by
   obtain ⟨bytes, _, E⟩ := elemB_ok hg
   obtain ⟨inf, z, h1, h2, h3, _⟩ := E.info
   have he : P.elem t = e' := by have := E.under; simp [Program.elem, this]
   rw [he]
   exact ⟨E.under, by rw [h1, Option.map_some, h3]⟩
 unfold sliceT at h
 split at h
 · rename_i j
   split at h
   · rename_i e hu
     obtain ⟨R, hR, h⟩ := res_run h
     have hx : a.eval x = A.v j := hx
     split at h
     · rename_i e' ty l
       obtain ⟨hg, h⟩ := guardT_run h
       obtain ⟨g1, g2⟩ := elem hu hg
       have e0 := ret_run h
       subst e0
       have hcut : cutP l.length i k' := hcs _ (List.mem_singleton.2 rfl)
       obtain ⟨c1, c2⟩ := cutP_ok hcut
       obtain ⟨xs, hd, hrow⟩ : OwnD S w e' (A.v j) l := H.frm.ok j (rowRs e' (A.v j) l) (by show (r j).map _ = _; rw [hR]; rfl)
       obtain ⟨pp, cap, hv, hc3, _⟩ := hd.slice
       rw [hv] at hd hx
       obtain ⟨d1, d2⟩ := cut_hd hd c1 c2 (Nat.le_trans c2 hc3) (Nat.le_refl _)
       have e2 := exec hx (slice_run (P := P) (w := w) g1 g2 hc3 hcut)
       rw [← tsz0_eq] at d1 d2
       have hFb := hF b (Nat.le_refl _) (hB _ List.mem_cons_self)
       obtain ⟨A', k1, k2⟩ := H.rowTo (b := b) (v := A.v j) (v' := sliced pp (cutLo i) (cutHi l.length k') cap (tsz0 ty)) (w' := w) (e := e') (m := cutL l i k') (xs := (xs.drop (cutLo i * tsz0 ty)).take ((cutHi l.length k' - cutLo i) * tsz0 ty)) (old := some (j, none)) hFb ⟨_, hR, fun c hc => hc, fun z q => by cases q⟩
         ⟨rfl, rfl, rfl, Nat.le_refl _, fun _ _ _ => rfl⟩ (by rw [cutL_len hcut, ← tsz0_eq]; exact d1) (fun _ => by rw [cutL_eq hcut, tsz0_eq]; exact row_cut hrow c1 c2) (fun c hc => .inl (by rw [hv]; exact d2 c hc))
       exact wp_value e2 (k _ _ ⟨A', S, k1, k2, .inr ⟨_, List.mem_cons_self⟩, tv⟩)
     · rename_i ty l
       obtain ⟨hg, h⟩ := guardT_run h
       obtain ⟨g1, g2⟩ := elem hu hg
       have e0 := ret_run h
       subst e0
       have hcut : cutP l.length i k' := hcs _ (List.mem_singleton.2 rfl)
       obtain ⟨c1, c2⟩ := cutP_ok hcut
       have hrd : Rd S w (A.v j) l := H.frm.ok j (Rs.of (@Res.ro (List (El ty)) _ (A.v j) l)) (by show (r j).map _ = _; rw [hR]; rfl)
       obtain ⟨pp, cap, hv, hc3, _⟩ := slice_header (rd_slice hrd)
       rw [hv] at hrd hx
       have e2 := exec hx (slice_run (P := P) (w := w) g1 g2 hc3 hcut)
       have hrd2 := slice_rd (slice_cut (rd_slice hrd) c1 c2)
       rw [← cutL_eq hcut, ← tsz0_eq] at hrd2
       have hFb := hF b (Nat.le_refl _) (hB _ List.mem_cons_self)
       have hs : sliced pp (cutLo i) (cutHi l.length k') cap (tsz0 ty) = (A.set b (if cap = cutLo i then pp else pp.map (·.add (cutLo i * tsz0 ty))) (cutHi l.length k' - cutLo i) (cap - cutLo i) 0).v b := by rw [Asg.set_v]; rfl
       refine wp_value e2 (k _ _ ⟨_, S, H.ro (b := b) (Agr.set hFb (if cap = cutLo i then pp else pp.map (·.add (cutLo i * tsz0 ty))) (cutHi l.length k' - cutLo i) (cap - cutLo i) 0) ⟨Nat.le_refl _, ⟨_, rfl, ?_⟩, tv⟩, hs, .inr ⟨_, List.mem_cons_self⟩, tv⟩)
       show Rd S w (Asg.v _ b) _
       rw [← hs]; exact hrd2
     · rename_i ty l
       obtain ⟨hg, h⟩ := guardT_run h
       obtain ⟨g1, g2⟩ := elem hu hg
       have e0 := ret_run h
       subst e0
       have hcut : cutP l.length i k' := hcs _ (List.mem_singleton.2 rfl)
       obtain ⟨c1, c2⟩ := cutP_ok hcut
       have hrd : Rd o.old o.w (A.v j) l := H.args j _ hR
       obtain ⟨pp, cap, hv, hc3, _⟩ := slice_header (rd_slice hrd)
       rw [hv] at hrd hx
       have e2 := exec hx (slice_run (P := P) (w := w) g1 g2 hc3 hcut)
       have hrd2 := slice_rd (slice_cut (rd_slice hrd) c1 c2)
       rw [← cutL_eq hcut, ← tsz0_eq] at hrd2
       have hFb := hF b (Nat.le_refl _) (hB _ List.mem_cons_self)
       have hs : sliced pp (cutLo i) (cutHi l.length k') cap (tsz0 ty) = (A.set b (if cap = cutLo i then pp else pp.map (·.add (cutLo i * tsz0 ty))) (cutHi l.length k' - cutLo i) (cap - cutLo i) 0).v b := by rw [Asg.set_v]; rfl
       refine wp_value e2 (k _ _ ⟨_, S, H.ro (b := b) (Agr.set hFb (if cap = cutLo i then pp else pp.map (·.add (cutLo i * tsz0 ty))) (cutHi l.length k' - cutLo i) (cap - cutLo i) 0) ⟨Nat.le_refl _, ⟨_, rfl, ?_⟩, tv⟩, hs, .inr ⟨_, List.mem_cons_self⟩, tv⟩)
       show Rd o.old o.w (Asg.v _ b) _
       rw [← hs]; exact hrd2
     cases h
   cases h
 · rename_i sb
   split at h
   · rename_i hu
     have e0 := ret_run h
     subst e0
     have hcut : cutP sb.size i k' := hcs _ (List.mem_singleton.2 rfl)
     have hrun : (Instr.sliceAt t (.string sb) (i.map (Value.int .i64)) (k'.map (Value.int .i64)) none).run P w = .ok (.string (sb.extract (i.getD 0).toNat (k'.getD sb.size).toNat)) w := by
       rw [run_sliceAt_string w t _ _ _ _ hu]
       match i, k', hcut with
       | none, none, h => simp [Instr.slice, run_underlying hu, Instr.sliceBounds]
       | some lo, none, h =>
         obtain ⟨h1, h2⟩ : 0 ≤ lo ∧ lo ≤ (sb.size : Int) := h
         simp [Instr.slice, run_underlying hu, Instr.sliceBounds, run_sliceBound, h1, h2]
       | none, some hi, h =>
         obtain ⟨h1, h2⟩ : 0 ≤ hi ∧ hi ≤ (sb.size : Int) := h
         simp [Instr.slice, run_underlying hu, Instr.sliceBounds, run_sliceBound, h1, h2]
       | some lo, some hi, h =>
         obtain ⟨h1, h2, h3⟩ : 0 ≤ lo ∧ lo ≤ hi ∧ hi ≤ (sb.size : Int) := h
         have h4 : 0 ≤ hi := by omega
         have h5 : (hi.toNat : Int) = hi := Int.toNat_of_nonneg h4
         simp [Instr.slice, run_underlying hu, Instr.sliceBounds, run_sliceBound, h1, h2, h3, h4, h5]
     exact wp_value (exec hx hrun) (k _ _ ⟨A, S, H.agree (Agr.refl _ _) fun _ q => .inl q, rfl, tv, tv⟩)
   cases h
 · split at h
   · rename_i e hu
     obtain ⟨hg, h⟩ := guardT_run h
     have e0 := ret_run h
     subst e0
     have hcut : cutP 0 i k' := hcs _ (List.mem_singleton.2 rfl)
     obtain ⟨c1, c2⟩ := cutP_ok hcut
     have he : P.elem t = e := by simp [Program.elem, hu]
     obtain ⟨inf, hinf⟩ := Option.isSome_iff_exists.1 hg
     have hrun := slice_run (P := P) (w := w) (t := t) (size := inf.size) (by rw [he]; exact hu) (by rw [he, hinf]; rfl) (base := none) (Nat.le_refl 0) hcut
     have e1 : sliced none (cutLo i) (cutHi 0 k') 0 inf.size = .slice none 0 0 := by
       unfold sliced
       have h1 : cutHi 0 k' - cutLo i = 0 := by omega
       rw [h1]; simp
     rw [e1] at hrun
     exact wp_value (exec hx hrun) (k _ _ ⟨A, S, H.agree (Agr.refl _ _) fun _ q => .inl q, rfl, tv, tv⟩)
   cases h
 cases h
end
section
variable {P : Program} {o : OrgG} {n : Nat} {A A' : Asg} {S S' T : Stab} {F G : Nat → Prop} {s : Nat → Option E2} {r : Nat → Option R2} {a : Act} {w w' : World} {C : List (Nat × Bool)} {b : Nat}
theorem makeS_step {B : Nat} (H : OkF o n A S F s r a w) (hF : ∀ j, b ≤ j → j < B → ¬ F j) {op : Oper} {t : TypeId} {x y : Operand} {p q : Sy} {out : Out} (ho : op.op = .makeSlice t x y) (hx : a.eval x = p.den A) (hy : a.eval y = q.den A)
   (h : (makeSliceT P b t p q).run s r = some out) (hcs : ∀ p ∈ out.cs, p) (hB : ∀ p ∈ out.re, p.1 < B) {K : Act → World → Prop} {Q : Exit → Act → World → Prop} (k : ∀ v w', After o n F s r a out v w' → K (a.put op.dst v) w') : op.wp P a w K Q := by
 unfold makeSliceT at h
 split at h
 · rename_i l c
   split at h
   · rename_i ty z hty hz
     obtain ⟨hg, h1⟩ := guardT_run h
     clear h
     obtain ⟨bytes, hby, E⟩ := elemB_ok hg
     have hzc := zero_cells hz
     obtain ⟨x0, hx0, htup, h2⟩ := gathSy_cells (T := S) (w := w) (A := A) (fun c hc j hj => by rw [hzc c hc] at hj; cases hj) h1
     clear h1
     have e := ret_run h2
     subst e
     obtain ⟨c1, c2, c3⟩ : 0 ≤ l ∧ l ≤ c ∧ c ≤ 2147483647 := hcs _ (List.mem_singleton.2 rfl)
     obtain ⟨w', zv, m1, m2, m3, m4, m5⟩ := make_hd (P := P) (w := w) E (kl := .i64) (kc := .i64) c1 c2 hby c3
     have hcells : (syCells z).map (Sc.den A) = zv.cells.toList := by
       obtain ⟨inf, hinf, hzv⟩ := Option.bind_eq_some_iff.1 m1
       unfold zeroSy at hz
       rw [hinf] at hz
       simp only at hz
       rw [hzv] at hz
       cases hz
       cases zv with
       | agg cs => show (cs.toList.map scOf).map (Sc.den A) = _; rw [List.map_map, show (Sc.den A ∘ scOf) = id from funext fun v => scOf_den A v]; simp [Value.cells]
       | _ => first | (show [Sc.den A (scOf _)] = _; rw [scOf_den]; rfl)
     rw [hcells] at hx0
     have hx : a.eval x = .int .i64 l := hx
     have hy : a.eval y = .int .i64 c := hy
     have e2 : (execOp a.eval op).run P w = .ok (.value (.slice (some ⟨w.heap.size, 0, none⟩) l.toNat c.toNat)) w' := by
       simp only [execOp, ho, Sem.run_bind, hx, hy, m3]; rfl
     have hFb := hF b (Nat.le_refl _) (hB _ (List.mem_singleton.2 rfl))
     have hlc : l.toNat ≤ c.toNat := by omega
     have hsz : zv.cells.size = tsz0 ty := m2
     subst m4
     have hrow : RowRd S w ((madeCells zv.cells (c.toNat * tsz0 ty)).toList.take (l.toNat * tsz0 ty)) (List.replicate l.toNat x0) := by
       have := made_row hlc hx0
       rw [hsz] at this; exact this
     obtain ⟨A', k1, k2⟩ := H.rowTo (b := b) (w' := w.alloc (.cells (madeCells zv.cells (c.toNat * tsz ty)) (P.elem t))) (v := .slice none 0 0) (v' := .slice (some ⟨w.heap.size, 0, none⟩) l.toNat c.toNat) (e := P.elem t) (m := List.replicate l.toNat x0) (old := none) hFb rfl
       ⟨rfl, rfl, rfl, by simp, fun k hk _ => heap_alloc_old w _ hk⟩ (m5.as (tsz0_eq ty) (List.length_replicate (n := l.toNat) (a := x0)).symm) (fun hk => hrow.keep hk) (fun c hc => .inr (by cases hc; exact ⟨Nat.le_refl _, by simp⟩))
     exact wp_value e2 (k _ _ ⟨A', S, k1, k2, .inr ⟨_, List.mem_cons_self⟩, tv⟩)
   cases h
 cases h
theorem OkF.iterTo (H : OkF o n A S F s r a w) (hF : ¬ F b) {k : Kc} {ty : Ty} {m : MapD k (El ty)} {lf : KEl k → Bool} {cnt : Nat} (hw : w.grownBy w' none) (hsz : w'.heap.size = w.heap.size + 1) (hi : IterOn S w' w.heap.size m lf cnt none ∨ IterNone w' w.heap.size m lf (none : Option (KEl k × El ty))) :
   ∃ A', OkF o n A' S (FU F [(b, some (.iter k ty m lf cnt none))]) s (setM r [(b, some (.iter k ty m lf cnt none))]) a w' ∧ A'.b b = w.heap.size := by
 have hag := Agr.set (A := A) hF none 0 0 w.heap.size
 have hbb : (A.set b none 0 0 w.heap.size).b b = w.heap.size := Asg.set_b A b none 0 0 w.heap.size
 refine ⟨A.set b none 0 0 w.heap.size, H.swap hag (S' := S) (fun _ => False) (fun _ q => q.elim) ((Chg.of hw).mono fun _ q => by cases q) (fun _ q => q) (fun _ q => .inl q) (fun d z hz => ?_) (fun d d' z z' bb h1 h2 _ _ => by cases List.mem_singleton.1 h1; cases List.mem_singleton.1 h2; rfl), hbb⟩
 cases List.mem_singleton.1 hz
 refine ⟨tv, tv, rfl, ?_, fun c hc => ?_⟩
 · show IterOn S w' ((A.set b none 0 0 w.heap.size).b b) m lf cnt none ∨ IterNone w' ((A.set b none 0 0 w.heap.size).b b) m lf none
   rw [hbb]; exact hi
 have hc : c = (A.set b none 0 0 w.heap.size).b b := hc
 rw [hbb] at hc
 exact ⟨.inr (by omega), by omega⟩
theorem rangeV_step {B : Nat} (H : OkF o n A S F s r a w) (hF : ∀ j, b ≤ j → j < B → ¬ F j) {op : Oper} {t : TypeId} {x : Operand} {p : Sy} {out : Out} (ho : op.op = .range t x) (hx : a.eval x = p.den A)
   (h : (rangeT P b t p).run s r = some out) (hB : ∀ p ∈ out.re, p.1 < B) {K : Act → World → Prop} {Q : Exit → Act → World → Prop} (k : ∀ v w', After o n F s r a out v w' → K (a.put op.dst v) w') : op.wp P a w K Q := by
 have exec : ∀ {u : Value} {w'' : World}, a.eval x = u → (Instr.range t u).run P w = .ok (.pointer (some ⟨w.heap.size, 0, none⟩)) w'' → (execOp a.eval op).run P w = .ok (.value (.pointer (some ⟨w.heap.size, 0, none⟩))) w'' := fun h1 h2 => by
   simp only [execOp, ho, Sem.run_bind, h1, h2]; rfl
 unfold rangeT at h
 split at h
 · rename_i j
   split at h
   · rename_i kt et hu
     obtain ⟨re, hz, hl, h1⟩ := frz_run _ _ h
     clear h
     obtain ⟨S', hS, H'⟩ := H.freeze hz
     obtain ⟨R, hR, h2⟩ := res_run h1
     clear h1
     split at h2
     · rename_i kc ty m hm
       obtain ⟨hg, h3⟩ := guardT_run h2
       clear h2
       simp only [Bool.and_eq_true] at hg
       obtain ⟨⟨g1, g2⟩, g3⟩ := hg
       have hk := kindB_ok g1
       have e := ret_run h3
       subst e
       have hx : a.eval x = .map (A.m j) := hx
       have hFb := hF b (Nat.le_refl _) (hB _ List.mem_cons_self)
       -- the map, read as data that stand
       have hrd : Rd S' w (.map (A.m j)) m := by
         refine (frz_reads H hz hS H' hl _ List.mem_cons_self j rfl R hR).m kc ty m ?_
         cases R <;> first | exact hm | (cases hm; done) | skip
         all_goals (rename_i z; cases z <;> cases hm)
       obtain ⟨x', hx', hrd2⟩ := rd_map hrd
       have hx' : A.m j = x' := by injection hx'
       have fin : ∀ {w'' : World}, w.grownBy w'' none → w''.heap.size = w.heap.size + 1 → (Instr.range t (.map (A.m j))).run P w = .ok (.pointer (some ⟨w.heap.size, 0, none⟩)) w'' →
           (IterOn S' w'' w.heap.size m (fun x => (lookK (show List (KEl kc × El ty) from m) x).isSome) (show List (KEl kc × El ty) from m).length none ∨ IterNone w'' w.heap.size m (fun x => (lookK (show List (KEl kc × El ty) from m) x).isSome) (none : Option (KEl kc × El ty))) → op.wp P a w K Q := by
         intro w'' q1 q2 q3 q4
         obtain ⟨A', k1, k2⟩ := H'.iterTo (b := b) hFb q1 q2 q4
         rw [← setM_append] at k1
         refine wp_value (exec hx q3) (k _ _ ⟨A', S', k1.agree (Agr.refl _ _) fun c hc => FU.mono (fun p hp => by rw [List.mem_singleton.1 hp]; exact List.mem_cons_self) hc, ?_, .inr ⟨_, List.mem_cons_self⟩, tv⟩)
         show _ = Value.pointer (some ⟨A'.b b, 0, none⟩)
         rw [k2]
       subst hx'
       cases hmj : A.m j with
       | none =>
         rw [hmj] at hrd2
         have hrd2 : m = ([] : List (KEl kc × El ty)) := hrd2
         subst hrd2
         refine fin (w'' := w.alloc (.mapIter none 0 #[] 0)) ⟨rfl, rfl, rfl, by simp, fun k hk _ => heap_alloc_old w _ hk⟩ (by simp) (by rw [hmj]; exact range_nil hu) (.inr ⟨rfl, rfl, fun _ => rfl, 0, #[], 0, heap_alloc_new w _⟩)
       | some blk =>
         rw [hmj] at hrd2
         obtain ⟨hSb, zs, n1, n2, n3⟩ := hrd2
         obtain ⟨w'', q1, q2, q3, q4⟩ := n1.range hu hk
         have hlook : (fun x => (lookK (zs.map fun q => (q.1, q.2.1)) x).isSome) = fun x => (lookK (show List (KEl kc × El ty) from m) x).isSome := by
           funext x
           have e1 : lookK (zs.map fun q => (q.1, q.2.1)) x = (lookK zs x).map (·.1) := map_lookK (fun y : Value × El ty => y.1) zs x
           have e2 : lookK (show List (KEl kc × El ty) from m) x = (lookK zs x).map (·.2) := by rw [n2]; exact map_lookK (fun y : Value × El ty => y.2) zs x
           rw [e1, e2]; cases lookK zs x <;> rfl
         have hlen : (zs.map fun q => (q.1, q.2.1)).length = (show List (KEl kc × El ty) from m).length := by rw [n2]; simp
         rw [hlook, hlen] at q2
         have hkS : Keeps S' w w'' := fun c hc => q3.block c (H'.frm.inb c hc) fun q => by cases q
         exact fin q3 q4 (by rw [hmj]; exact q1) (.inl ⟨blk, zs, none, hSb, q2, n2, fun z hz => (n3 z hz).keep hkS, rfl, fun _ q => by cases q⟩)
     cases h2
   cases h
 · split at h
   · rename_i kt et kc ty hu hc
     have e := ret_run h
     subst e
     have hFb := hF b (Nat.le_refl _) (hB _ List.mem_cons_self)
     have hx : a.eval x = .map none := hx
     obtain ⟨A', k1, k2⟩ := H.iterTo (b := b) (w' := w.alloc (.mapIter none 0 #[] 0)) (k := kc) (ty := ty) (m := ([] : List (KEl kc × El ty))) (lf := fun _ => false) (cnt := 0) hFb ⟨rfl, rfl, rfl, by simp, fun k hk _ => heap_alloc_old w _ hk⟩ (by simp) (.inr ⟨rfl, rfl, fun _ => rfl, 0, #[], 0, heap_alloc_new w _⟩)
     refine wp_value (exec hx (range_nil hu)) (k _ _ ⟨A', S, k1, ?_, .inr ⟨_, List.mem_cons_self⟩, tv⟩)
     show _ = Value.pointer (some ⟨A'.b b, 0, none⟩)
     rw [k2]
   cases h
 cases h
theorem keySy_den {k : Kc} (x : KEl k) : (keySy k x).den A = kval k x := by cases k <;> rfl
theorem keySy_all {k : Kc} (x : KEl k) : (keySy k x).all F ∧ (keySy k x).good A := by cases k <;> exact ⟨tv, tv⟩
theorem entry_step {B : Nat} (H : OkF o n A S F s r a w) (hF : ∀ j, b ≤ j → j < B → ¬ F j) {op : Oper} {x : Operand} {p : Sy} {out : Out} (ho : op.op = .entry x) (hx : a.eval x = p.den A)
   (h : (entryT b p).run s r = some out) (hB : ∀ p ∈ out.re, p.1 < B) {K : Act → World → Prop} {Q : Exit → Act → World → Prop} (k : ∀ v w', After o n F s r a out v w' → K (a.put op.dst v) w') : op.wp P a w K Q := by
 unfold entryT at h
 split at h
 · rename_i j
   obtain ⟨R, hR, h2⟩ := res_run h
   clear h
   split at h2
   · rename_i kc ty m lf cnt e
     have e0 := ret_run h2
     subst e0
     have hm : memF A r j = some (iterRs (A.b j) m lf cnt (some e)) := by show (r j).map _ = _; rw [hR]; rfl
     rcases H.frm.ok j _ hm with ⟨mb, zs, cu, h1, h3, h4, h5, h6, h7⟩ | ⟨_, h6, _⟩
     · cases hcu : cu with
       | none => rw [hcu] at h6; cases h6
       | some q =>
         rw [hcu] at h6 h3
         have hq : e = (q.1, q.2.2) := by simpa using h6
         have hrd := h7 q hcu
         have hrun := h3.2 q.1 q.2.1 rfl P w rfl rfl
         obtain ⟨vs, hvs, hv⟩ := rd_cells hrd
         subst hq
         obtain ⟨A', k1, k2, k3, k4⟩ := celSc_ok (o := o) (S := S) (w := w) (k := true) _ vs b A F hvs hF hB
         have hx : a.eval x = .pointer (some ⟨A.b j, 0, none⟩) := hx
         have e2 : (execOp a.eval op).run P w = .ok (.value (.tuple #[kval kc q.1, q.2.1])) w := by
           simp only [execOp, ho, Sem.run_bind, hx, hrun]; rfl
         refine wp_value e2 (k _ _ ⟨A', S, H.ro k1 k3, ?_, fun p hp c hc => ?_, fun p hp c hc => ?_⟩)
         · show Value.tuple #[_, _] = Value.tuple #[partDen A' (false, [keySy kc q.1]), partDen A' (isPair ty, (celSc true b (cels ty q.2.2)).1)]
           unfold partDen
           simp only [List.map_cons, List.map_nil, keySy_den, k2, Bool.false_eq_true, if_false, List.headD_cons]
           rw [hv]
         · rcases List.mem_cons.1 hp with rfl | hp
           · have := List.mem_singleton.1 hc; subst this; exact (keySy_all (A := A) q.1).1
           have := List.mem_singleton.1 hp; subst this; exact (k4 c hc).1
         rcases List.mem_cons.1 hp with rfl | hp
         · have := List.mem_singleton.1 hc; subst this; exact (keySy_all (F := F) q.1).2
         have := List.mem_singleton.1 hp; subst this; exact (k4 c hc).2
     cases h6
   cases h2
 cases h
end
section
variable {P : Program} {o : OrgG} {n : Nat} {A A' : Asg} {S S' : Stab} {F G : Nat → Prop} {s : Nat → Option E2} {r : Nat → Option R2} {a : Act} {w w' : World} {C : List (Nat × Bool)} {b : Nat}
theorem appP_step {B : Nat} (H : OkF o n A S F s r a w) (hF : ∀ j, b ≤ j → j < B → ¬ F j) {op : Oper} {c : Call} {t : TypeId} {x y : Operand} {q : Sy} {ty : Ty} {e : TypeId} {l : List (El ty)} {ps : List Prop} {old : Option (Nat × Option R2)} {v : Value} {out : Out} (ho : op.op = .call c) (hcal : c.callee = .builtin .append) (hargs : c.args.toList = [x, y]) (hat : c.argTypes.toList = [t, t])
   (hx : a.eval x = v) (hy : a.eval y = q.den A) (hv : (∀ p ∈ ps, p) → (∃ xs, HdAt w e (Data.size (El ty)) v l.length xs ∧ RowRd S w xs l) ∧ OldOk A S F w r v old) (h : (appP P b t ty e l ps old.toList q).run s r = some out) (hcs : ∀ p ∈ out.cs, p) (hB : ∀ p ∈ out.re, p.1 < B)
   {K : Act → World → Prop} {Q : Exit → Act → World → Prop} (k : ∀ v w', After o n F s r a out v w' → K (a.put op.dst v) w') : op.wp P a w K Q := by
 have ha : c.args = #[x, y] := by apply Array.ext'; exact hargs
 have hb : c.argTypes = #[t, t] := by apply Array.ext'; exact hat
 unfold appP at h
 cases hu : P.underlying t with
 | none =>
   -- then nothing can be appended
   exfalso
   have key : ∀ {q : Sy} {out : Out}, (srcT ty (fun qs m => guardT (elemB P t e (tsz ty)) (.ret ⟨(l.length + m.length ≤ 2147483647) :: (ps ++ qs), [], .one (.own b), (b, some (.row e ty (l ++ m))) :: old.toList⟩)) q).run s r = some out → False := by
     intro q out h
     have hg : elemB P t e (tsz ty) = false := by unfold elemB; rw [hu]
     rw [hg] at h
     unfold srcT at h
     split at h
     · obtain ⟨Y, hY, h⟩ := res_run h
       split at h
       · split at h
         · obtain ⟨_, h⟩ := guardT_run h; cases h
         cases h
       cases h
     · obtain ⟨Y, hY, h⟩ := res_run h
       split at h
       · split at h
         · obtain ⟨_, h⟩ := guardT_run h; cases h
         cases h
       cases h
     · cases h
     cases h
   exact key h
 | some d =>
   have main : ∀ {e' : TypeId}, d = .slice e' → op.wp P a w K Q := by
     intro e' hd
     subst hd
     obtain ⟨qs, m, h1, h2⟩ := srcT_run H hu h
     clear h
     obtain ⟨hg, h3⟩ := guardT_run h1
     clear h1
     have e0 := ret_run h3
     subst e0
     obtain ⟨bytes, hby, E⟩ := elemB_ok hg
     rw [tsz_eq] at E
     have hps : ∀ p ∈ ps, p := fun p hp => hcs p (List.mem_cons_of_mem _ (List.mem_append_left _ hp))
     have hqs : ∀ p ∈ qs, p := fun p hp => hcs p (List.mem_cons_of_mem _ (List.mem_append_right _ hp))
     obtain ⟨k1, k2⟩ := hv hps
     obtain ⟨v', w', r1, A', r2, r3⟩ := app_gen H (hF b (Nat.le_refl _) (hB _ List.mem_cons_self)) E hby k1 k2 (h2 hqs) (hcs _ List.mem_cons_self) op.type
     have e2 : (execOp a.eval op).run P w = .ok (.value v') w' := by
       unfold execOp
       simp only [ho, resolve, hcal, ha, hb, invoke, builtin, Sem.run_bind, Sem.run_pure, Result.andThen_ok, List.map_toArray, List.map_cons, List.map_nil, hx, hy, r1]
     exact wp_value e2 (k _ _ ⟨A', S, r2, r3, .inr ⟨_, List.mem_cons_self⟩, tv⟩)
   cases d with
   | slice e' => exact main rfl
   | _ =>
     exfalso
     have hg : elemB P t e (tsz ty) = false := by unfold elemB; rw [hu]
     rw [hg] at h
     unfold srcT at h
     split at h
     · obtain ⟨Y, hY, h⟩ := res_run h
       split at h
       · split at h
         · obtain ⟨_, h⟩ := guardT_run h; cases h
         cases h
       cases h
     · obtain ⟨Y, hY, h⟩ := res_run h
       split at h
       · split at h
         · obtain ⟨_, h⟩ := guardT_run h; cases h
         cases h
       cases h
     · cases h
     cases h
theorem srcTy_run {k : Ty → Tr Out} {q : Sy} {out : Out} (h : (srcTy k q).run s r = some out) : ∃ ty, (k ty).run s r = some out := by
 unfold srcTy at h
 split at h
 · obtain ⟨Y, hY, h⟩ := res_run h
   split at h
   · exact ⟨_, h⟩
   cases h
 · obtain ⟨Y, hY, h⟩ := res_run h
   split at h
   · exact ⟨_, h⟩
   cases h
 cases h
theorem app_step {B : Nat} (H : OkF o n A S F s r a w) (hF : ∀ j, b ≤ j → j < B → ¬ F j) {op : Oper} {c : Call} {t : TypeId} {x y : Operand} {p q : Sy} {out : Out} (ho : op.op = .call c) (hcal : c.callee = .builtin .append) (hargs : c.args.toList = [x, y]) (hat : c.argTypes.toList = [t, t])
   (hx : a.eval x = p.den A) (hy : a.eval y = q.den A) (h : (appT P b t p q).run s r = some out) (hcs : ∀ p ∈ out.cs, p) (hB : ∀ p ∈ out.re, p.1 < B)
   {K : Act → World → Prop} {Q : Exit → Act → World → Prop} (k : ∀ v w', After o n F s r a out v w' → K (a.put op.dst v) w') : op.wp P a w K Q := by
 have ha : c.args = #[x, y] := by apply Array.ext'; exact hargs
 have hb : c.argTypes = #[t, t] := by apply Array.ext'; exact hat
 have nilP : ∀ {ty : Ty} {q : Sy}, p = .one (.v (.slice none 0 0)) → a.eval y = q.den A → (appP P b t ty (P.elem t) [] [] [] q).run s r = some out → op.wp P a w K Q := fun {ty q'} e hy' h' => by
   subst e
   exact appP_step (q := q') (old := none) H hF ho hcal hargs hat hx hy' (fun _ => ⟨⟨[], HdAt.nil w _ _, RowRd.nil _ _⟩, rfl⟩) h' hcs hB k
 have nest : ∀ {v : Value} {old : Option Nat} {i qi : Nat} {e e' ie : TypeId} {ty : Ty} {l m : List (El ty)}, a.eval x = v → a.eval y = A.v i → elemB P t e (tsz ty) = true →
     (match old with
     | some j => v = A.v j ∧ ∃ qf, r j = some (.ext (.nest qf none e ty ie l))
     | none => v = .slice none 0 0 ∧ l = []) → r i = some (.ext (.nest qi none e' ty ie m)) → old ≠ some i → l.length + m.length ≤ 2147483647 → ∀ cs hs, out = ⟨cs, hs, .one (.own b), (b, some (.ext (.nest b none e ty ie (l ++ m)))) :: (old.toList.map (fun j => (j, none)) ++ [(i, none)])⟩ → op.wp P a w K Q := by
   intro v old i qi e e' ie ty l m hx hy hg hold hi hne hlen cs hs e0
   subst e0
   obtain ⟨bytes, hby, E⟩ := elemB_ok hg
   obtain ⟨v', w', r1, A', r2, r3⟩ := nestApp H (hF b (Nat.le_refl _) (hB _ List.mem_cons_self)) E hby hold hi hne hlen op.type
   have e2 : (execOp a.eval op).run P w = .ok (.value v') w' := by
     unfold execOp
     simp only [ho, resolve, hcal, ha, hb, invoke, builtin, Sem.run_bind, Sem.run_pure, Result.andThen_ok, List.map_toArray, List.map_cons, List.map_nil, hx, hy, r1]
   exact wp_value e2 (k _ _ ⟨A', S, r2, r3, .inr ⟨_, List.mem_cons_self⟩, tv⟩)
 unfold appT at h
 split at h
 · split at h
   · rename_i i
     obtain ⟨Y, hY, h2⟩ := res_run h
     clear h
     split at h2
     · rename_i qi e ty ie m
       obtain ⟨hg, h3⟩ := guardT_run h2
       have e0 := ret_run h3
       have hlen : m.length ≤ 2147483647 := hcs _ (by rw [e0]; exact List.mem_singleton.2 rfl)
       exact nest (old := none) (l := []) hx hy hg ⟨rfl, rfl⟩ hY (by simp) (by simpa using hlen) _ _ e0
     obtain ⟨ty, h3⟩ := srcTy_run h2
     exact nilP rfl hy h3
   obtain ⟨ty, h3⟩ := srcTy_run h
   exact nilP rfl hy h3
 · rename_i j
   obtain ⟨X, hX, h2⟩ := res_run h
   clear h
   split at h2
   · rename_i e ty l
     refine appP_step (old := some (j, none)) (v := A.v j) H hF ho hcal hargs hat hx hy (fun _ => ⟨H.frm.ok j (rowRs e (A.v j) l) (by show (r j).map _ = _; rw [hX]; rfl), ⟨_, hX, fun c hc => hc, fun z q => by cases q⟩⟩) h2 hcs hB k
   · rename_i qf e ty ie l
     split at h2
     · rename_i i
       obtain ⟨Y, hY, h3⟩ := res_run h2
       clear h2
       split at h3
       · rename_i qi e' ty' ie' m
         split at h3
         · rename_i m' hm'
           obtain ⟨hg, h4⟩ := guardT_run h3
           clear h3
           obtain ⟨et, hm2⟩ := castEl_ok hm'
           have et : ty' = ty := by injection et
           subst et
           have hm2 : m = m' := hm2
           subst hm2
           simp only [Bool.and_eq_true] at hg
           obtain ⟨g1, g2, g3⟩ := hg
           have g2 := beq_t g2
           subst g2
           have e0 := ret_run h4
           have hlen : l.length + m.length ≤ 2147483647 := hcs _ (by rw [e0]; exact List.mem_singleton.2 rfl)
           exact nest (old := some j) hx hy g1 ⟨rfl, qf, hX⟩ hY (fun q => by cases q; simp at g3) hlen _ _ e0
         cases h3
       cases h3
     cases h2
   cases h2
 · rename_i j qf hx'
   obtain ⟨Y, hY, h2⟩ := res_run h
   clear h
   split at h2
   · rename_i I hI
     refine appP_step (old := some (j, some I.z)) (v := A.f qf hx'.lit) H hF ho hcal hargs hat hx hy (fun hp => ?_) h2 hcs hB k
     obtain ⟨q1, q2, q3, q4, q5, q6, q7⟩ := hd_at H hY hI hp
     exact ⟨q1, _, hY, q2, fun z e => by cases e; exact ⟨q3, q4, q5, q6, q7⟩⟩
   cases h2
 cases h
theorem place_in {R : Sc → Prop} {fs : Array Field} : ∀ {l : List (Nat × Sy)} {cs cs' : List Sc}, (∀ p ∈ l, ∀ c ∈ syCells p.2, R c) → (∀ c ∈ cs, R c) → placeC fs l cs = some cs' → ∀ c ∈ cs', R c
 | [], cs, cs', _, h, e => by cases e; exact h
 | (i, y) :: l, cs, cs', hl, h, e => by
   simp only [placeC] at e
   split at e
   · rename_i fd _
     refine place_in (fun p hp => hl p (List.mem_cons_of_mem _ hp)) (fun c hc => ?_) e
     rcases List.mem_append.1 hc with hc | hc
     · rcases List.mem_append.1 hc with hc | hc
       · exact h c (List.mem_of_mem_take hc)
       exact hl (i, y) (by simp) c hc
     exact h c (List.mem_of_mem_drop hc)
   cases e
theorem opT_ok {B : Nat} {T : List (Con P)} {md : Bool} (H : OkF o n A S F s r a w) (hC : chOk a C) (hF : ∀ j, b ≤ j → j < B → ¬ F j) {op : Oper} {out : Out} (h : (opT P T C md b op.op).run s r = some out) (hcs : ∀ p ∈ out.cs, p) (hhs : ∀ h ∈ out.hs, ∀ A w, h.lhs A w = h.rhs A w) (hB : ∀ p ∈ out.re, p.1 < B)
   {K : Act → World → Prop} {Q : Exit → Act → World → Prop} (k : ∀ v w', After o n F s r a out v w' → K (a.put op.dst v) w') : op.wp P a w K Q := by
 have quiet : (quiet2 P C b op.op).run s r = some out → op.wp P a w K Q := by
   intro h
   obtain ⟨⟨A', h1, h2, h3, h4, h5⟩, _⟩ := quiet2_ok H hC hF h hcs hB
   exact wp_quiet (h2 op rfl) (k _ _ ⟨A', S, H.ro h1 h5, rfl, h3, h4⟩)
 cases hop : op.op
 case box t x =>
   rw [hop] at h
   obtain ⟨y, e1, e2, e3, h⟩ := opd_run H hC h
   have e := ret_run h
   subst e
   have hrun := hhs _ (List.mem_singleton.2 rfl) A w
   have e4 : (execOp a.eval op).run P w = .ok (.value (.pointer (some ⟨w.heap.size, 0, none⟩))) (w.alloc (.cells ((syCells y).map (Sc.den A)).toArray t)) := by
     simp only [boxHid] at hrun
     simp only [execOp, hop, Sem.run_bind, e1, hrun]
     rfl
   have hin : ∀ c ∈ syCells y, c.all F ∧ c.good A := by
     intro c hc
     cases y with
     | one c' => have := List.mem_singleton.1 hc; subst this; exact ⟨e2, e3⟩
     | agg ds => exact ⟨e2 c hc, e3 c hc⟩
     | tup ps => cases hc
   exact box_step H (hF b (Nat.le_refl _) (hB _ (List.mem_singleton.2 rfl))) (fun c hc => (hin c hc).1) (fun c hc => (hin c hc).2) e4 k
 case alloc t =>
   rw [hop] at h
   simp only [opT] at h
   split at h
   · split at h
     · rename_i z hz
       have e := ret_run h
       subst e
       have hrun := hhs _ (List.mem_singleton.2 rfl) A w
       have e4 : (execOp a.eval op).run P w = .ok (.value (.pointer (some ⟨w.heap.size, 0, none⟩))) (w.alloc (.cells ((z.cells.toList.map scOf).map (Sc.den A)).toArray t)) := by
         simp only [allocHid] at hrun
         simp only [execOp, hop, Sem.run_bind, hrun]
         rfl
       exact box_step H (hF b (Nat.le_refl _) (hB _ (List.mem_singleton.2 rfl))) (fun c hc => by obtain ⟨u, _, rfl⟩ := List.mem_map.1 hc; exact scOf_all F u) (fun c hc => by obtain ⟨u, _, rfl⟩ := List.mem_map.1 hc; exact scOf_good A u) e4 k
     cases h
   cases h
 case buildSlice t len parts =>
   rw [hop] at h
   obtain ⟨ys, f1, f2, h⟩ := opds_run H hC h
   refine litN_step H hF hop ?_ h hcs hhs hB k
   rw [← f1, List.map_map]; rfl
 case build t parts =>
   rw [hop] at h
   obtain ⟨ys, f1, f2, h⟩ := opds_run H hC h
   unfold buildT at h
   split at h
   · split at h
     · rename_i z hz
       split at h
       · rename_i cs hcs'
         have e := ret_run h
         subst e
         have hrun := hhs _ (List.mem_singleton.2 rfl) A w
         simp only [buildHid] at hrun
         have ep : parts.map (fun x => (x.1, a.eval x.2)) = (((parts.toList.map (·.1)).zip ys).map fun y => (y.1, y.2.den A)).toArray := by
           apply Array.ext'
           rw [Array.toList_map]
           show _ = ((parts.toList.map (·.1)).zip ys).map fun y => (y.1, y.2.den A)
           have : (((parts.toList.map (·.1)).zip ys).map fun y => (y.1, y.2.den A)) = (parts.toList.map (·.1)).zip (ys.map (Sy.den A)) := by
             rw [List.zip_map_right]
             rfl
           rw [this, ← f1, List.map_map, List.zip_map']
           rfl
         have e4 : (execOp a.eval op).run P w = .ok (.value (.agg (cs.map (Sc.den A)).toArray)) w := by
           rw [← ep] at hrun
           simp only [execOp, hop, Sem.run_bind]
           rw [show (Array.map (fun x => match x with | (i, x) => (i, a.eval x)) parts) = parts.map (fun x => (x.1, a.eval x.2)) from rfl, hrun]
           rfl
         have hin : ∀ c ∈ cs, c.all F ∧ c.good A := place_in (l := (parts.toList.map (·.1)).zip ys) (fun p hp c hc => by
           have hy := f2 p.2 (List.of_mem_zip hp).2
           obtain ⟨i, y⟩ := p
           cases y with
           | one c' => have := List.mem_singleton.1 hc; subst this; exact hy
           | agg ds => exact ⟨hy.1 c hc, hy.2 c hc⟩
           | tup ps => cases hc) (fun c hc => by obtain ⟨u, _, rfl⟩ := List.mem_map.1 hc; exact ⟨scOf_all F u, scOf_good A u⟩) hcs'
         exact wp_value e4 (k _ _ ⟨A, S, H.agree (Agr.refl _ _) fun _ q => .inl q, rfl, fun c hc => Sc.mono (fun _ q => .inl q) (hin c hc).1, fun c hc => (hin c hc).2⟩)
       cases h
     cases h
   cases h
 case store t x y =>
   rw [hop] at h
   obtain ⟨p, e1, e2, e3, h⟩ := opd_run H hC h
   obtain ⟨q, f1, f2, f3, h⟩ := opd_run H hC h
   exact storeEl_step H hF hop e1 f1 ⟨f2, f3⟩ h hcs hB k
 case call c =>
   rw [hop] at h
   simp only [opT] at h
   split at h
   · rename_i x hcal
     obtain ⟨p, e1, e2, e3, h⟩ := opd_run H hC h
     split at h
     · rename_i f caps
       split at h
       · rename_i con hcon
         obtain ⟨hg, h⟩ := guardT_run h
         obtain ⟨ys, f1, f2, h⟩ := opds_run H hC h
         have hf : con.f = f := beq_t (by have := List.find?_some hcon; exact this)
         exact call2_step (T := T) H hF hop hcal e1 hf (by simpa using hg) f1 f2 e2 h hcs hhs hB k
       cases h
     cases h
   · rename_i hcal
     split at h
     · rename_i x y t t' hargs hat
       obtain ⟨hg, h2⟩ := guardT_run h
       have hg := beq_t hg
       subst hg
       obtain ⟨p, e1, e2, e3, h3⟩ := opd_run H hC h2
       obtain ⟨q, f1, f2, f3, h⟩ := opd_run H hC h3
       exact app_step H hF hop hcal hargs hat e1 f1 h hcs hB k
     cases h
   · rename_i hcal
     split at h
     · rename_i x t hargs hat _
       obtain ⟨p, e1, e2, e3, h⟩ := opd_run H hC h
       exact lenM_step H hop hcal hargs hat e1 h k
     exact quiet (by rw [hop]; exact h)
   · rename_i hcal
     split at h
     · rename_i x y t kt hargs hat
       obtain ⟨p, e1, e2, e3, h⟩ := opd_run H hC h
       obtain ⟨q, f1, f2, f3, h⟩ := opd_run H hC h
       exact dropM_step H hop hcal hargs hat e1 f1 h hcs k
     cases h
   exact quiet (by rw [hop]; exact h)
 case makeMap t x =>
   rw [hop] at h
   cases x with
   | none => exact makeMN_step H hF hop (fun y q => by cases q) h hB k
   | some x =>
     obtain ⟨p, e1, e2, e3, h⟩ := opd_run H hC h
     split at h
     · rename_i ik m
       exact makeMN_step H hF hop (fun y q => by cases q; exact ⟨ik, m, e1⟩) h hB k
     cases h
 case mapUpdate t m x y =>
   rw [hop] at h
   obtain ⟨p, e1, e2, e3, h⟩ := opd_run H hC h
   obtain ⟨q, f1, f2, f3, h⟩ := opd_run H hC h
   obtain ⟨z, g1, g2, g3, h⟩ := opd_run H hC h
   exact putN_step H hF (.inl hop) e1 f1 g1 h hcs hB k
 case insert t m x y =>
   rw [hop] at h
   obtain ⟨p, e1, e2, e3, h⟩ := opd_run H hC h
   obtain ⟨q, f1, f2, f3, h⟩ := opd_run H hC h
   obtain ⟨z, g1, g2, g3, h⟩ := opd_run H hC h
   exact putN_step H hF (.inr hop) e1 f1 g1 h hcs hB k
 case lookup t m x ok =>
   rw [hop] at h
   obtain ⟨p, e1, e2, e3, h⟩ := opd_run H hC h
   obtain ⟨q, f1, f2, f3, h⟩ := opd_run H hC h
   exact look_step H hF hop e1 f1 h hcs hhs hB k
 case makeFunc f first caps =>
   rw [hop] at h
   simp only [opT] at h
   split at h
   · rename_i f' hfirst
     obtain ⟨ys, f1, f2, h2⟩ := opds_run H hC h
     clear h
     split at h2
     · rename_i cs hcs'
       have e0 := one_run h2
       subst e0
       have hc : ∀ {ys : List Sy} {cs : List (Nat × Nat)}, capsOf ys = some cs → ys.map (Sy.den A) = cs.map fun c => Value.pointer (some ⟨A.b c.1, c.2, none⟩) := by
         intro ys
         induction ys with
         | nil => intro cs h; cases h; rfl
         | cons y ys ih =>
           intro cs h
           unfold capsOf at h
           split at h
           · rename_i heq; cases heq
           · rename_i j off l heq
             cases heq
             obtain ⟨cs', h1, rfl⟩ := Option.map_eq_some_iff.1 h
             rw [List.map_cons, List.map_cons, ih h1]; rfl
           cases h
       have hall : ∀ {ys : List Sy} {cs : List (Nat × Nat)}, capsOf ys = some cs → (∀ y ∈ ys, y.all F ∧ y.good A) → ∀ c ∈ cs, F c.1 := by
         intro ys
         induction ys with
         | nil => intro cs h _ c hc; cases h; cases hc
         | cons y ys ih =>
           intro cs h hy c hc
           unfold capsOf at h
           split at h
           · rename_i heq; cases heq
           · rename_i j off l heq
             cases heq
             obtain ⟨cs', h1, rfl⟩ := Option.map_eq_some_iff.1 h
             rcases List.mem_cons.1 hc with rfl | hc
             · exact (hy _ List.mem_cons_self).1
             exact ih h1 (fun z hz => hy z (List.mem_cons_of_mem _ hz)) c hc
           cases h
       have hfa : first = #[] := by apply Array.ext'; exact hfirst
       have hca : caps.map a.eval = (cs.map fun c => Value.pointer (some ⟨A.b c.1, c.2, none⟩)).toArray := by
         apply Array.ext'
         rw [Array.toList_map, f1, hc hcs']
       have e4 : (execOp a.eval op).run P w = .ok (.value (.func (.func f') #[] (cs.map fun c => Value.pointer (some ⟨A.b c.1, c.2, none⟩)).toArray)) w := by
         simp only [execOp, hop, Sem.run_bind, hfa, hca, Instr.makeFunc, Sem.run_pure, Array.map_empty]; rfl
       exact wp_value e4 (k _ _ ⟨A, S, H.agree (Agr.refl _ _) fun _ q => .inl q, rfl, fun c hc => .inl (hall hcs' f2 c hc), tv⟩)
     cases h2
   cases h
 case slice t x lo hi mx =>
   rw [hop] at h
   cases mx with
   | none =>
     obtain ⟨p, e1, e2, e3, h1⟩ := opd_run H hC h
     obtain ⟨i, f1, h2⟩ := intOp_run H hC h1
     obtain ⟨k', g1, h3⟩ := intOp_run H hC h2
     exact slice_step H hF hop e1 f1 g1 h3 hcs hB k
   | some _ => exact quiet (by rw [hop]; exact h)
 case makeSlice t l c =>
   rw [hop] at h
   obtain ⟨p, e1, e2, e3, h1⟩ := opd_run H hC h
   obtain ⟨q, f1, f2, f3, h2⟩ := opd_run H hC h1
   exact makeS_step H hF hop e1 f1 h2 hcs hB k
 case range t x =>
   rw [hop] at h
   obtain ⟨p, e1, e2, e3, h1⟩ := opd_run H hC h
   exact rangeV_step H hF hop e1 h1 hB k
 case entry x =>
   rw [hop] at h
   obtain ⟨p, e1, e2, e3, h1⟩ := opd_run H hC h
   exact entry_step H hF hop e1 h1 hB k
 all_goals (rw [hop] at h; exact quiet (by rw [hop]; exact h))
end
def Tr.bind {α β : Type 1} : Tr α → (α → Tr β) → Tr β
 | .ret a, k => k a
 | .fail, _ => .fail
 | .slot t f, k => .slot t fun e => (f e).bind k
 | .res j f, k => .res j fun x => (f x).bind k
theorem Tr.bind_run {α β : Type 1} {s : Nat → Option E2} {r : Nat → Option R2} : ∀ {T : Tr α} {k : α → Tr β} {out : β}, (T.bind k).run s r = some out → ∃ a, T.run s r = some a ∧ (k a).run s r = some out
 | .ret a, k, out, h => ⟨a, rfl, h⟩
 | .fail, k, out, h => by cases h
 | .slot t f, k, out, h => by
   simp only [Tr.bind, Tr.run] at h ⊢
   split at h
   · rename_i e he
     obtain ⟨a, h1, h2⟩ := Tr.bind_run h
     exact ⟨a, h1, h2⟩
   cases h
 | .res j f, k, out, h => by
   simp only [Tr.bind, Tr.run] at h ⊢
   split at h
   · rename_i e he
     obtain ⟨a, h1, h2⟩ := Tr.bind_run h
     exact ⟨a, h1, h2⟩
   cases h
structure Upd : Type 1 where
 cs : List Prop
 hs : List Hid
 sl : Option (Nat × Option E2)
 re : List (Nat × Option R2)
def setE (s : Nat → Option E2) : List (Nat × Option E2) → Nat → Option E2
 | [] => s
 | p :: l => updE (setE s l) p.1 p.2
def imp : List Prop → Prop → Prop
 | [], p => p
 | g :: gs, p => g → imp gs p
def chainT (ops : Array Oper) (o : Oper) (k : Option (List (Nat × Bool)) → Tr Upd) : Tr Upd :=
 match o.guard with
 | none => k (some [])
 | some (i, bv) => match (ops[i]?).bind (·.dst) with
   | some j => .slot j fun e => match e.sy with
     | .one (.b (.lit c)) => match Bool.xor c bv with
       | false => k (some e.ch)
       | true => k none
     | .one (.b _) => k (some (e.ch ++ [(j, bv)]))
     | _ => .fail
   | none => .fail
def saysT : List (Nat × Bool) → (List Prop → Tr Upd) → Tr Upd
 | [], k => k []
 | l :: C, k => .slot l.1 fun e => match e.sy with
   | .one (.b be) => saysT C fun ps => k (be.is l.2 :: ps)
   | _ => .fail
def hintOf : List (Nat × Bool) → Nat → Option Bool
 | [], _ => none
 | p :: l, d => match Nat.beq p.1 d with
   | true => some p.2
   | false => hintOf l d
def finT (hn : List (Nat × Bool)) (d : Option Nat) (out : Out) : Upd :=
 match d with
 | none => ⟨out.cs, out.hs, none, out.re⟩
 | some d => match hintOf hn d, out.sy with
   | some v, .one (.b e) => ⟨out.cs ++ [e.is v], out.hs, some (d, some ⟨[], .one (.b (.lit v))⟩), out.re⟩
   | _, y => ⟨out.cs, out.hs, some (d, some ⟨[], y⟩), out.re⟩
def stepG (P : Program) (T : List (Con P)) (sd : Nat) (hn : List (Nat × Bool)) (n : Nat) (ops : Array Oper) (b : Nat) (o : Oper) : Tr Upd :=
 guardT (match o.dst with | some d => Nat.blt d n | none => true) (chainT ops o fun oc => match oc with
   | none => .ret ⟨[], [], o.dst.map fun d => (d, none), []⟩
   | some [] => (opT P T [] (match o.dst with | some d => hintOf hn d == some true | none => false) b o.op).bind fun out => guardT (out.re.all fun p => Nat.blt p.1 (b + sd)) (.ret (finT hn o.dst out))
   | some (l :: C) => (opT P T (l :: C) false b o.op).bind fun out => match out.re, o.dst with
     | [], some d => guardT ((l :: C).all fun l => !Nat.beq l.1 d) (saysT (l :: C) fun ps => .ret ⟨out.cs.map (imp ps), out.hs, some (d, some ⟨l :: C, out.sy⟩), []⟩)
     | _, _ => .fail)
section
variable {P : Program} {o : OrgG} {n : Nat} {A A' : Asg} {S S' : Stab} {F G : Nat → Prop} {s : Nat → Option E2} {r : Nat → Option R2} {a : Act} {w w' : World} {C : List (Nat × Bool)} {b : Nat}
theorem ret_run' {u u' : Upd} (h : (Tr.ret u').run s r = some u) : u = u' := (Option.some.inj h).symm
theorem chainT_run (H : OkF o n A S F s r a w) {ops : Array Oper} {op : Oper} {k : Option (List (Nat × Bool)) → Tr Upd} {out : Upd} (h : (chainT ops op k).run s r = some out) :
   (∃ C, (Region.wanted op (yielded ops a.tmps) = true ↔ chOk a C) ∧ (k (some C)).run s r = some out) ∨ (Region.wanted op (yielded ops a.tmps) = false ∧ (k none).run s r = some out) := by
 unfold chainT at h
 unfold Region.wanted
 split at h
 · rename_i hg
   refine .inl ⟨[], ?_, h⟩
   simp [hg, chOk]
 rename_i i bv hg
 split at h
 · rename_i j hj
   simp only [Tr.run] at h
   split at h
   · rename_i e he
     have hen := H.env j e he
     have hy : yielded ops a.tmps i = some bv ↔ a.tmps[j]? = some (.bool bv) := by
       unfold yielded
       rw [hj]
       simp only [Option.bind_some]
       constructor
       · intro hh
         split at hh
         · rename_i c hc; cases hh; exact hc
         cases hh
       intro hh; rw [hh]
     have hundef : a.tmps[j]? = some (.bool bv) → chOk a e.ch := fun hh => Classical.byContradiction fun hn => by
       have := hen.2 hn
       rw [show (⟨j, e.ch, e.sy.den A⟩ : Ent).slot = j from rfl, hh] at this
       simp [undef] at this
     split at h
     · rename_i c hsy
       have hval : chOk a e.ch → a.tmps[j]? = some (.bool c) := fun q => by have := hen.1 q; rw [hsy] at this; exact this
       split at h
       · rename_i hx
         have hcb : c = bv := by cases c <;> cases bv <;> first | rfl | cases hx
         subst hcb
         refine .inl ⟨e.ch, ?_, h⟩
         simp only [hg, beq_iff_eq]
         rw [hy]
         exact ⟨hundef, hval⟩
       rename_i hx
       refine .inr ⟨?_, h⟩
       simp only [hg, beq_eq_false_iff_ne, ne_eq]
       rw [hy]
       intro hh
       rw [hval (hundef hh)] at hh
       cases hh
       cases bv <;> cases hx
     · rename_i be _ hsy
       refine .inl ⟨e.ch ++ [(j, bv)], ?_, h⟩
       simp only [hg, beq_iff_eq]
       rw [hy]
       constructor
       · intro hh l hl
         rcases List.mem_append.1 hl with hl | hl
         · exact hundef hh l hl
         rw [List.mem_singleton] at hl; subst hl; exact hh
       intro hh; exact hh (j, bv) (List.mem_append_right _ (by simp))
     cases h
   cases h
 cases h
theorem saysT_run (H : OkF o n A S F s r a w) : ∀ {C : List (Nat × Bool)} {k : List Prop → Tr Upd} {out : Upd}, (saysT C k).run s r = some out → ∃ ps, (chOk a C → ∀ p ∈ ps, p) ∧ (k ps).run s r = some out
 | [], k, out, h => ⟨[], fun _ _ q => (by cases q), h⟩
 | l :: C, k, out, h => by
   simp only [saysT, Tr.run] at h
   split at h
   · rename_i e he
     split at h
     · rename_i be hsy
       obtain ⟨ps, h1, h2⟩ := saysT_run H h
       refine ⟨be.is l.2 :: ps, fun hc p hp => ?_, h2⟩
       have hl : a.tmps[l.1]? = some (.bool l.2) := hc l (by simp)
       rcases List.mem_cons.1 hp with rfl | hp
       · have hen := H.env l.1 e he
         have hch : chOk a e.ch := Classical.byContradiction fun hn => by
           have := hen.2 hn
           rw [show (⟨l.1, e.ch, e.sy.den A⟩ : Ent).slot = l.1 from rfl, hl] at this
           simp [undef] at this
         have hv := hen.1 hch
         rw [show (⟨l.1, e.ch, e.sy.den A⟩ : Ent).slot = l.1 from rfl, hl, hsy] at hv
         have hv : Value.bool l.2 = .bool be.den := Option.some.inj hv
         exact (BE.is_iff be l.2).2 (Value.bool.inj hv).symm
       exact h1 (fun z hz => hc z (List.mem_cons_of_mem _ hz)) p hp
     cases h
   cases h
theorem imp_elim : ∀ {ps : List Prop} {p : Prop}, imp ps p → (∀ q ∈ ps, q) → p
 | [], p, h, _ => h
 | g :: gs, p, h, k => imp_elim (h (k g (by simp))) fun q hq => k q (List.mem_cons_of_mem _ hq)
def putE (s : Nat → Option E2) : Option (Nat × Option E2) → Nat → Option E2
 | none => s
 | some p => updE s p.1 p.2
theorem act_put_none (a : Act) (v : Value) : a.put none v = a := rfl
theorem stepG_ok {T : List (Con P)} {sd : Nat} {hn : List (Nat × Bool)} {ops : Array Oper} (H : OkF o n A S F s r a w) (hF : ∀ j, b ≤ j → j < b + sd → ¬ F j) {op : Oper} {u : Upd} (h : (stepG P T sd hn n ops b op).run s r = some u) (hcs : ∀ p ∈ u.cs, p) (hhs : ∀ h ∈ u.hs, ∀ A w, h.lhs A w = h.rhs A w)
   (hch : ∀ d, op.dst = some d → ∀ t e, s t = some e → ∀ l ∈ e.ch, l.1 ≠ d) {K : Act → World → Prop} {Q : Exit → Act → World → Prop} (k : ∀ A' S' a' w', OkF o n A' S' (FU F u.re) (putE s u.sl) (setM r u.re) a' w' → (∀ p ∈ u.re, p.1 < b + sd) → K a' w') :
   if Region.wanted op (yielded ops a.tmps) then op.wp P a w K Q else K (a.put op.dst undef) w := by
 unfold stepG at h
 obtain ⟨hd, h⟩ := guardT_run h
 have hdn : ∀ d, op.dst = some d → d < n := fun d e => by rw [e] at hd; simpa using Nat.blt_eq ▸ hd
 rcases chainT_run H h with ⟨C, hw, h⟩ | ⟨hw, h⟩
 · cases C with
   | nil =>
     have hw : Region.wanted op (yielded ops a.tmps) = true := hw.2 fun l hl => by cases hl
     rw [if_pos hw]
     obtain ⟨out, ho, h⟩ := Tr.bind_run h
     obtain ⟨hre, h⟩ := guardT_run h
     have hB : ∀ p ∈ out.re, p.1 < b + sd := fun p hp => by have := List.all_eq_true.1 hre p hp; simpa using Nat.blt_eq ▸ this
     have e := ret_run' h
     subst e
     unfold finT at hcs hhs k
     have hC : chOk a [] := fun l hl => by cases hl
     have fin : (∀ p ∈ out.cs, p) → (∀ h ∈ out.hs, ∀ A w, h.lhs A w = h.rhs A w) → (∀ v w', After o n F s r a out v w' → K (a.put op.dst v) w') → op.wp P a w K Q := fun h1 h2 h3 => opT_ok H hC hF ho h1 h2 hB h3
     cases hdst : op.dst with
     | none =>
       rw [hdst] at hcs hhs k fin
       refine fin hcs hhs fun v w' ⟨A', S', h1, h2, h3, h4⟩ => ?_
       rw [act_put_none]
       exact k A' S' a w' h1 hB
     | some d =>
       rw [hdst] at hcs hhs k fin
       have plain : (∀ p ∈ out.cs, p) → (∀ h ∈ out.hs, ∀ A w, h.lhs A w = h.rhs A w) → (∀ A' S' a' w', OkF o n A' S' (FU F out.re) (updE s d (some ⟨[], out.sy⟩)) (setM r out.re) a' w' → K a' w') → op.wp P a w K Q := fun h1 h2 k' => by
         refine fin h1 h2 fun v w' ⟨A', S', h1, h2, h3, h4⟩ => ?_
         have h5 := h1.put (C := []) (d := d) (y := out.sy) (u := v) (hdn d hdst) (hch d hdst) (fun l hl => by cases hl) (fun _ => ⟨h3, h4⟩) ⟨fun _ => h2, fun q => (q fun l hl => by cases hl).elim⟩
         exact k' A' S' _ w' h5
       simp only at hcs hhs k
       split at hcs
       · rename_i v e hv he
         rw [hv, he] at hhs k
         refine fin (fun p hp => hcs p (List.mem_append_left _ hp)) hhs fun v' w' ⟨A', S', h1, h2, h3, h4⟩ => ?_
         have hev : e.den = v := (BE.is_iff e v).1 (hcs _ (List.mem_append_right _ (List.mem_singleton.2 rfl)))
         have h5 := h1.put (C := []) (d := d) (y := .one (.b (.lit v))) (u := v') (hdn d hdst) (hch d hdst) (fun l hl => by cases hl) (fun _ => ⟨tv, tv⟩) ⟨fun _ => by rw [h2, he]; show Value.bool e.den = .bool v; rw [hev], fun q => (q fun l hl => by cases hl).elim⟩
         exact k A' S' _ w' h5 hB
       rename_i hne
       have e : (match hintOf hn d, out.sy with
         | some v, .one (.b e) => (⟨out.cs ++ [e.is v], out.hs, some (d, some ⟨[], .one (.b (.lit v))⟩), out.re⟩ : Upd)
         | _, y => ⟨out.cs, out.hs, some (d, some ⟨[], y⟩), out.re⟩) = ⟨out.cs, out.hs, some (d, some ⟨[], out.sy⟩), out.re⟩ := by
         split
         · rename_i v e hv he; exact (hne v e hv he).elim
         rfl
       rw [e] at hhs k
       exact plain hcs hhs fun A' S' a' w' q => k A' S' a' w' q hB
   | cons l C =>
     obtain ⟨out, ho, h⟩ := Tr.bind_run h
     split at h
     · rename_i d hre hdst
       obtain ⟨hCd, h⟩ := guardT_run h
       have hCd : ∀ z ∈ l :: C, z.1 ≠ d := fun z hz e => by
         have := List.all_eq_true.1 hCd z hz
         rw [e, Nat.beq_refl] at this; cases this
       obtain ⟨ps, hps, h⟩ := saysT_run H h
       have e := ret_run' h
       subst e
       by_cases hC : chOk a (l :: C)
       · rw [if_pos (hw.2 hC)]
         refine opT_ok H hC hF ho (fun p hp => imp_elim (hcs _ (List.mem_map.2 ⟨p, hp, rfl⟩)) (hps hC)) hhs (fun p hp => by rw [hre] at hp; cases hp) fun v w' ⟨A', S', h1, h2, h3, h4⟩ => ?_
         rw [hre] at h1 h3
         have h5 := h1.put (C := l :: C) (d := d) (y := out.sy) (u := v) (hdn d hdst) (hch d hdst) hCd (fun _ => ⟨h3, h4⟩) ⟨fun _ => h2, fun q => (q hC).elim⟩
         rw [hdst]
         exact k A' S' _ w' (h5.agree (Agr.refl _ _) fun j hj => hj) (fun p hp => by cases hp)
       rw [if_neg (fun q => hC (hw.1 q)), hdst]
       have h5 := H.put (C := l :: C) (d := d) (y := out.sy) (u := undef) (hdn d hdst) (hch d hdst) hCd (fun q => (hC q).elim) ⟨fun q => (hC q).elim, fun _ => rfl⟩
       exact k A S _ w (h5.agree (Agr.refl _ _) fun j hj => .inl hj) (fun p hp => by cases hp)
     cases h
 rw [if_neg (by rw [hw]; decide)]
 have e := ret_run' h
 subst e
 cases hdst : op.dst with
 | none =>
   rw [hdst] at k
   exact k A S _ w (H.agree (Agr.refl _ _) fun j hj => .inl hj) (fun p hp => by cases hp)
 | some d =>
   rw [hdst] at k
   exact k A S _ w ((H.lose (hch d hdst)).agree (Agr.refl _ _) fun j hj => .inl hj) (fun p hp => by cases hp)
end
def addE (x : Option (Nat × Option E2)) (en : List (Nat × Option E2)) : List (Nat × Option E2) := match x with
 | none => en
 | some p => p :: en
def freeCh (en : List (Nat × Option E2)) (d : Option Nat) : Bool := match d with
 | none => true
 | some d => en.all fun p => match p.2 with
   | some ⟨[], _⟩ => true
   | some e => e.ch.all fun l => !Nat.beq l.1 d
   | none => true
section
variable (P : Program) (T : List (Con P)) (sd : Nat) (hn : List (Nat × Bool)) (n : Nat) (ops : Array Oper) (s0 : Nat → Option E2) (r0 : Nat → Option R2)
def seqU : List Oper → Nat → List (Nat × Option E2) → List (Nat × Option R2) → Option (List Upd)
 | [], _, _, _ => some []
 | o :: l, b, en, re => match freeCh en o.dst with
   | true => match (stepG P T sd hn n ops b o).run (setE s0 en) (setM r0 re) with
     | some u => match seqU l (b + sd) (addE u.sl en) (u.re ++ re) with
       | some us => some (u :: us)
       | none => none
     | none => none
   | false => none
end
def enAll : List Upd → List (Nat × Option E2) → List (Nat × Option E2)
 | [], en => en
 | u :: us, en => enAll us (addE u.sl en)
def reAll : List Upd → List (Nat × Option R2) → List (Nat × Option R2)
 | [], re => re
 | u :: us, re => reAll us (u.re ++ re)
section
variable {P : Program} {o : OrgG} {n : Nat} {A A' : Asg} {S S' : Stab} {F G : Nat → Prop} {s s' s0 : Nat → Option E2} {r r0 : Nat → Option R2} {a : Act} {w w' : World} {b : Nat} {T : List (Con P)} {sd : Nat} {hn : List (Nat × Bool)} {ops : Array Oper} {Q : Exit → Act → World → Prop}
theorem OkF.less (H : OkF o n A S F s r a w) (hs : ∀ t e, s' t = some e → s t = some e) : OkF o n A S F s' r a w :=
 ⟨H.size, H.nodef, fun t e he => H.env t e (hs t e he), fun t e he => H.sall t e (hs t e he), H.rall, H.frm, H.args, H.pin⟩
theorem setE_add (s : Nat → Option E2) (x : Option (Nat × Option E2)) (en : List (Nat × Option E2)) : setE s (addE x en) = putE (setE s en) x := by cases x <;> rfl
theorem setE_append (s : Nat → Option E2) : ∀ x y : List (Nat × Option E2), setE s (x ++ y) = setE (setE s y) x
 | [], _ => rfl
 | p :: x, y => by show updE (setE s (x ++ y)) p.1 p.2 = _; rw [setE_append s x y]; rfl
theorem setE_from : ∀ {en : List (Nat × Option E2)} {t : Nat} {e : E2}, setE s0 en t = some e → s0 t = some e ∨ (t, some e) ∈ en
 | [], t, e, h => .inl h
 | p :: en, t, e, h => by
   have h : updE (setE s0 en) p.1 p.2 t = some e := h
   by_cases q : p.1 = t
   · subst q; rw [updE_same] at h; exact .inr (by rw [← h]; exact List.mem_cons_self)
   rw [updE_ne q] at h; exact (setE_from h).imp id (List.mem_cons_of_mem _)
theorem freeCh_ok {en : List (Nat × Option E2)} {d : Option Nat} (h0 : ∀ t e, s0 t = some e → e.ch = []) (h : freeCh en d = true) : ∀ d', d = some d' → ∀ t e, setE s0 en t = some e → ∀ l ∈ e.ch, l.1 ≠ d' := by
 intro d' hd t e he l hl
 subst hd
 rcases setE_from he with h1 | h1
 · rw [h0 t e h1] at hl; cases hl
 have := List.all_eq_true.1 h _ h1
 intro q
 obtain ⟨ch, y⟩ := e
 cases ch with
 | nil => cases hl
 | cons c ch =>
   have := List.all_eq_true.1 this l hl
   rw [q, Nat.beq_refl] at this; cases this
theorem reAll_mem {p : Nat × Option R2} : ∀ {us : List Upd} {re : List (Nat × Option R2)}, p ∈ re → p ∈ reAll us re
 | [], _, h => h
 | u :: us, re, h => reAll_mem (us := us) (List.mem_append_right _ h)
theorem setM_le {r r' : Nat → Option R2} (h : ∀ j x, r j = some x → r' j = some x) : ∀ {re : List (Nat × Option R2)} {j : Nat} {x : R2}, setM r re j = some x → setM r' re j = some x
 | [], j, x, k => h j x k
 | p :: re, j, x, k => by
   have k : updR (setM r re) p.1 p.2 j = some x := k
   show updR (setM r' re) p.1 p.2 j = some x
   by_cases q : p.1 = j
   · subst q; rw [updR_same] at k ⊢; exact k
   rw [updR_ne q] at k ⊢; exact setM_le h k
theorem seqU_mono {r0' : Nat → Option R2} (h : ∀ j x, r0 j = some x → r0' j = some x) : ∀ {l : List Oper} {b : Nat} {en : List (Nat × Option E2)} {re : List (Nat × Option R2)} {us : List Upd}, seqU P T sd hn n ops s0 r0 l b en re = some us → seqU P T sd hn n ops s0 r0' l b en re = some us
 | [], b, en, re, us, k => k
 | op :: l, b, en, re, us, k => by
   simp only [seqU] at k ⊢
   split at k
   · split at k
     · rename_i u hu
       split at k
       · rename_i us' hus
         cases k
         have h1 := Tr.mono (fun _ _ q => q) (fun j x q => setM_le (re := re) h q) _ hu
         simp only [h1, seqU_mono h hus]
       cases k
     cases k
   cases k
theorem seqU_ok {L : Nat → Prop} {rest : List Oper} (h0 : ∀ t e, s0 t = some e → e.ch = []) : ∀ {l : List Oper} {b : Nat} {en : List (Nat × Option E2)} {re : List (Nat × Option R2)} {us : List Upd} {A : Asg} {S : Stab} {F : Nat → Prop} {a : Act} {w : World},
   seqU P T sd hn n ops s0 r0 l b en re = some us → OkF o n A S F (setE s0 en) (setM r0 re) a w → (∀ j, b ≤ j → L j → ¬ F j) → (∀ j, j < b + sd * l.length → L j) → (∀ u ∈ us, ∀ p ∈ u.cs, p) → (∀ u ∈ us, ∀ h ∈ u.hs, ∀ A w, h.lhs A w = h.rhs A w) →
   (∀ A' S' F' a' w', OkF o n A' S' F' (setE s0 (enAll us en)) (setM r0 (reAll us re)) a' w' → (∀ j, b + sd * l.length ≤ j → L j → ¬ F' j) → (∀ j, F' j → F j ∨ ∃ x, (j, x) ∈ reAll us re) → wpList P ops Q rest a' w') → wpList P ops Q (l ++ rest) a w
 | [], b, en, re, us, A, S, F, a, w, h, H, hF, _, _, _, k => by
   cases h
   exact k A S F a w H (by simpa using hF) fun j hj => .inl hj
 | op :: l, b, en, re, us, A, S, F, a, w, h, H, hF, hL, hcs, hhs, k => by
   simp only [seqU] at h
   have hlen : sd * (op :: l).length = sd * l.length + sd := by rw [List.length_cons, Nat.mul_succ]
   split at h
   · rename_i hfree
     split at h
     · rename_i u hu
       split at h
       · rename_i us' hus
         cases h
         simp only [List.cons_append, wpList]
         have hstep := stepG_ok (Q := Q) (K := wpList P ops Q (l ++ rest)) H (fun j h1 h2 => hF j h1 (hL j (by omega))) hu (hcs u (by simp)) (hhs u (by simp)) (freeCh_ok h0 hfree) fun A' S' a' w' H' hB => by
           refine seqU_ok h0 hus (by rw [setE_add, setM_append]; exact H') (fun j hj hLj hn => ?_) (fun j hj => hL j (by omega)) (fun v hv => hcs v (List.mem_cons_of_mem _ hv)) (fun v hv => hhs v (List.mem_cons_of_mem _ hv)) fun A2 S2 F2 a2 w2 H2 hF2 hF3 => k A2 S2 F2 a2 w2 H2 (fun j hj => hF2 j (by omega)) fun j hj => ?_
           · rcases hn with hn | ⟨x, hx⟩
             · exact hF j (by omega) hLj hn
             have := hB _ hx; omega
           rcases hF3 j hj with (q | ⟨x, hx⟩) | q
           · exact .inl q
           · exact .inr ⟨x, reAll_mem (us := us') (List.mem_append_left _ hx)⟩
           exact .inr q
         split
         · rename_i hw; rw [if_pos hw] at hstep; exact .inl hstep
         rename_i hw; rw [if_neg hw] at hstep; exact hstep
       cases h
     cases h
   cases h
def unch : List (Nat × Option E2) → List (Nat × Option E2)
 | [] => []
 | (t, some ⟨[], y⟩) :: l => (t, some ⟨[], y⟩) :: unch l
 | (t, _) :: l => (t, none) :: unch l
theorem unch_ok (h0 : ∀ t e, s0 t = some e → e.ch = []) : ∀ {en : List (Nat × Option E2)} {t : Nat} {e : E2}, setE s0 (unch en) t = some e → setE s0 en t = some e ∧ e.ch = []
 | [], t, e, h => ⟨h, h0 t e h⟩
 | (d, x) :: en, t, e, h => by
   have ih : setE s0 (unch en) t = some e → setE s0 en t = some e ∧ e.ch = [] := unch_ok h0
   have gone : updE (setE s0 (unch en)) d none t = some e → updE (setE s0 en) d x t = some e ∧ e.ch = [] := fun h => by
     by_cases q : d = t
     · subst q; rw [updE_same] at h; cases h
     rw [updE_ne q] at h ⊢; exact ih h
   match x, h with
   | none, h => exact gone h
   | some ⟨_ :: _, y⟩, h => exact gone h
   | some ⟨[], y⟩, h =>
     have h : updE (setE s0 (unch en)) d (some ⟨[], y⟩) t = some e := h
     show updE (setE s0 en) d (some ⟨[], y⟩) t = some e ∧ e.ch = []
     by_cases q : d = t
     · subst q; rw [updE_same] at h ⊢; cases h; exact ⟨rfl, rfl⟩
     rw [updE_ne q] at h ⊢; exact ih h
end
end Go.Proofs.Ytahonnlgkmimlaa
