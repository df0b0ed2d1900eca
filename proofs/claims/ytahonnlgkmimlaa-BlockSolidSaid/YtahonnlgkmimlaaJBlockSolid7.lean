/-
 Texts joined by program: BlockL, TabB, WalkG5, WalkG3, WalkG4, WalkG6, WalkG7, WalkB5, WalkB6, WalkB8, WalkB9, WalkB10, WalkB11, WalkB12, WalkB7, BlockM, WalkB13, WkC, VTW4, VTW5, VY, WkD, VTW6.
-/
import Derived.Test.YtahonnlgkmimlaaProg
import Derived.Test.YtahonnlgkmimlaaJBlockSolid6
set_option linter.unusedSimpArgs false
set_option linter.unusedVariables false
set_option maxRecDepth 100000
set_option maxHeartbeats 8000000
namespace Go.Proofs.Ytahonnlgkmimlaa
open Go.RowKit Go.Proofs.Ytahonnlgkmimlaa.Deep
section
variable {n : Int} {E : List (Int × Int)} {V L : List Int}
theorem mem_touchL {M : List Int} {x : Int} : x ∈ touchL E M n ↔ (0 ≤ x ∧ x < n) ∧ ∃ e ∈ M, touchP E e x := by
 unfold touchL; rw [List.mem_filter, mem_upto, touchB_iff]
theorem class_mem {e f : Int} : f ∈ classL E V L e ↔ f ∈ L ∧ togB E V L e f = true := by unfold classL; rw [List.mem_filter]
theorem class_self {e : Int} (he : e ∈ L) : e ∈ classL E V L e := class_mem.2 ⟨he, togB_self⟩
theorem class_all (hp : partE n E V L = 0) {e : Int} (he : e ∈ L) : (∀ f ∈ classL E V L e, classL E V L f = classL E V L e) ∧
   ((classL E V L e = [e] ∧ (grE E L).lp e) ∨ ((∀ f ∈ classL E V L e, ¬ (grE E L).lp f) ∧ ∀ f ∈ classL E V L e, ∀ g ∈ classL E V L e, ∀ z, Tog (grE E L) z f g)) := by
 obtain ⟨_, _, hL, hV⟩ := part_iff.1 hp
 obtain ⟨s, _, _, R, hs⟩ := find_ex hp
 rcases R.cov (eA E e) (hs _ (hV e he _ (.inl rfl))) e he (.inl rfl) with h | h
 · rw [class_lp hp he h.1]
   exact ⟨fun f hf => by rw [List.mem_singleton.1 hf]; exact class_lp hp he h.1, .inl ⟨rfl, h.1⟩⟩
 obtain ⟨b, hb, heb⟩ := List.mem_flatten.1 h
 have hc := class_blk hp R hs hb heb
 obtain ⟨g1, g2⟩ := good_of R.glob.good b hb
 rw [hc]
 refine ⟨fun f hf => class_blk hp R hs hb (mem_sortL.1 hf), .inr ⟨fun f hf => (g1 f (mem_sortL.1 hf)).2, fun f hf g hg z => g2 f (mem_sortL.1 hf) g (mem_sortL.1 hg) z⟩⟩
theorem class_tog (hp : partE n E V L = 0) {e f : Int} (he : e ∈ L) (hf : f ∈ L) (le : ¬ (grE E L).lp e) (lf : ¬ (grE E L).lp f) (h : ∀ z, Tog (grE E L) z e f) : f ∈ classL E V L e := by
 refine class_mem.2 ⟨hf, togB_iff.2 fun v _ => ?_⟩
 by_cases hne : e = f
 · unfold apartB; rw [if_pos hne]
 exact (apart_iff he hf hne le lf).2 (h v)
theorem rch_at {z x : Int} {f g : Int} {a b : Int} (hg : g ∈ L) (ha : (grE E L).inc f a) (hb : (grE E L).inc g b) (hbz : b ≠ z) (h : (grE E L).Rch (· ≠ z) a b) (hx : (grE E L).inc g x) (hxz : x ≠ z) : (grE E L).Rch (· ≠ z) a x :=
 h.trans (ends_rch hg hb hx hbz hxz)
end
def hasIn (bs : List (List Int × List Int)) (v : Int) : List (List Int × List Int) := bs.filter fun b => decide (v ∈ b.1)
def cutsL (V : List Int) (bs : List (List Int × List Int)) : List Int := V.filter fun v => decide (1 < (hasIn bs v).length)
section
variable {n : Int} {E : List (Int × Int)} {V L : List Int}
theorem block_at (hp : partE n E V L = 0) {b : List Int × List Int} (hb : b ∈ blocksL n E V L) : ∃ e ∈ L, (classL E V L e).getD 0 0 = e ∧ b = (touchL E (classL E V L e) n, classL E V L e) := by
 obtain ⟨e, he, rfl⟩ := List.mem_map.1 hb
 obtain ⟨h1, h2⟩ := List.mem_filter.1 he
 exact ⟨e, h1, of_decide_eq_true h2, rfl⟩
theorem block_rises (hp : partE n E V L = 0) {b : List Int × List Int} (hb : b ∈ blocksL n E V L) : risesP b.1 n ∧ risesP b.2 (E.length : Int) ∧ (∀ x ∈ b.1, x ∈ V) ∧ (∀ e ∈ b.2, e ∈ L) := by
 obtain ⟨_, _, hL, hV⟩ := part_iff.1 hp
 obtain ⟨e, he, _, rfl⟩ := block_at hp hb
 refine ⟨touchL_rises, rises_sub ((rises_iff.1 hL).1.sublist List.filter_sublist) hL fun x hx => (class_mem.1 hx).1, fun x hx => ?_, fun x hx => (class_mem.1 hx).1⟩
 obtain ⟨_, g, hg, ht⟩ := mem_touchL.1 hx
 exact hV g (class_mem.1 hg).1 x ht
theorem blocks_len (n : Int) (E : List (Int × Int)) (V L : List Int) : (blocksL n E V L).length ≤ L.length := by
 unfold blocksL; rw [List.length_map]; exact List.length_filter_le _ _
end
def blocksE (n : Int) (E : List (Int × Int)) (V L : List Int) : List (List Int × List Int) := if partE n E V L ≠ 0 then [] else blocksL n E V L
def valAt (ins : List (Int × Value × List Int)) (k : Int) : List Int := match lastAt ins k with | some x => x.2 | none => []
theorem keys_len {ins : List (Int × Value × List Int)} {K : List Int} (hK : Asc K) (hKm : ∀ x, x ∈ K ↔ ∃ l, (x, l) ∈ ins) : K.length ≤ ins.length := by
 have h := nodup_le (asc_nodup hK) (m := ins.map fun q => q.1) fun x hx => by
   obtain ⟨l, hl⟩ := (hKm x).1 hx
   exact List.mem_map.2 ⟨_, hl, rfl⟩
 rwa [List.length_map] at h
theorem take_snoc {l : List Int} {i : Int} (h0 : 0 ≤ i) (h1 : i < (l.length : Int)) : l.take (i + 1).toNat = l.take i.toNat ++ [l.getD i.toNat 0] := by
 rw [show (i + 1).toNat = i.toNat + 1 by omega, List.take_add_one, List.getElem?_eq_getElem (by omega), List.getD_eq_getElem?_getD, List.getElem?_eq_getElem (by omega)]
 rfl
theorem blocks_val {n : Int} {E : List (Int × Int)} {V L : List Int} {s : St} {ins : List (Int × Value × List Int)} (hp : partE n E V L = 0) (R : Deep.Rest (grE E L) s) (hs : ∀ v ∈ V, s.met v ≠ 0) (hi : insOf ins = s.ins)
   {K : List Int} (hK : Asc K) (hKm : ∀ x, x ∈ K ↔ ∃ l, (x, l) ∈ ins) : K.map (fun k => (Lib.compact (sortL (endsL E (valAt ins k))), valAt ins k)) = blocksL n E V L := by
 refine blocks_eq hp R hs hK (fun k => ?_) fun k hk => ?_
 · rw [hKm, ← hi]
   constructor
   · rintro ⟨l, hl⟩; exact ⟨l.2, List.mem_map.2 ⟨_, hl, rfl⟩⟩
   rintro ⟨l, hl⟩
   obtain ⟨q, hq, e⟩ := List.mem_map.1 hl
   simp only [Prod.mk.injEq] at e
   exact ⟨q.2, by rw [← e.1]; exact hq⟩
 obtain ⟨l, hl⟩ := (hKm k).1 hk
 obtain ⟨x, hx⟩ := lastAt_some hl
 have hm := lastAt_mem hx
 rw [← hi]
 unfold valAt
 rw [hx]
 exact List.mem_map.2 ⟨_, hm, rfl⟩
theorem getD_mem {α : Type} {l : List α} {i : Nat} {d : α} (h : i < l.length) : l.getD i d ∈ l := by
 rw [List.getD_eq_getElem?_getD, List.getElem?_eq_getElem h]; exact List.getElem_mem h
theorem take_snocD {α : Type} {l : List α} {i : Int} {d : α} (h0 : 0 ≤ i) (h1 : i < (l.length : Int)) : l.take (i + 1).toNat = l.take i.toNat ++ [l.getD i.toNat d] := by
 rw [show (i + 1).toNat = i.toNat + 1 by omega, List.take_add_one, List.getElem?_eq_getElem (by omega), List.getD_eq_getElem?_getD, List.getElem?_eq_getElem (by omega)]
 rfl
theorem hasIn_snoc {bs : List (List Int × List Int)} {i x : Int} (h0 : 0 ≤ i) (h1 : i < (bs.length : Int)) : hasIn (bs.take (i + 1).toNat) x = hasIn (bs.take i.toNat) x ++ (if x ∈ (bs.getD i.toNat ([], [])).1 then [bs.getD i.toNat ([], [])] else []) := by
 unfold hasIn
 rw [take_snocD (d := ([], [])) h0 h1, List.filter_append, List.filter_cons]
 by_cases c : x ∈ (bs.getD i.toNat ([], [])).1
 · rw [if_pos c, if_pos (decide_eq_true c)]; rfl
 rw [if_neg c, if_neg (by rw [decide_eq_true_eq]; exact c)]; rfl
def aroundE (n : Int) (E : List (Int × Int)) (V L : List Int) (x : Int) : List (List Int × List Int) := if partE n E V L ≠ 0 then [] else hasIn (blocksL n E V L) x
def cntI (bs : List (List Int × List Int)) (v : Int) : Int := ((hasIn bs v).length : Int)
def cnt0 : Int → Int := fun _ => 0
theorem cntI_le (bs : List (List Int × List Int)) (v : Int) : 0 ≤ cntI bs v ∧ cntI bs v ≤ (bs.length : Int) := by
 have : (hasIn bs v).length ≤ bs.length := List.length_filter_le _ _
 unfold cntI; omega
theorem cntI_snoc {bs : List (List Int × List Int)} {i x : Int} (h0 : 0 ≤ i) (h1 : i < (bs.length : Int)) : cntI (bs.take (i + 1).toNat) x = cntI (bs.take i.toNat) x + (if x ∈ (bs.getD i.toNat ([], [])).1 then 1 else 0) := by
 unfold cntI
 rw [hasIn_snoc h0 h1, List.length_append]
 split <;> simp
theorem cnt_step {c : Int → Int} {l : List Int} {k : Int} {f : Int → Int} (h0 : 0 ≤ k) (h1 : k < (l.length : Int)) (hn : l.Nodup) (h : ∀ v, f v = c v + (if v ∈ l.take k.toNat then 1 else 0)) (v : Int) :
   Deep.upd f (l.getD k.toNat 0) (f (l.getD k.toNat 0) + 1) v = c v + (if v ∈ l.take (k + 1).toNat then 1 else 0) := by
 have hs := take_snoc h0 h1
 have hnot : l.getD k.toNat 0 ∉ l.take k.toNat := by
   have h2 : (l.take (k + 1).toNat).Nodup := hn.sublist (List.take_sublist _ _)
   rw [hs, List.nodup_append] at h2
   exact fun hx => h2.2.2 _ hx _ (by simp) rfl
 rw [hs]
 by_cases e : v = l.getD k.toNat 0
 · rw [e, Deep.upd_same, h, if_neg hnot, if_pos (by simp)]; omega
 rw [Deep.upd_ne _ _ e, h]
 simp only [List.mem_append, List.mem_singleton, e, or_false]
theorem cuts_upto {n : Int} {E : List (Int × Int)} {V L : List Int} (hp : partE n E V L = 0) : (upto n).filter (fun v => decide (1 < cntI (blocksL n E V L) v)) = cutsL V (blocksL n E V L) := by
 obtain ⟨_, hV, _, _⟩ := part_iff.1 hp
 refine asc_ext ((upto_asc n).sublist List.filter_sublist) ((rises_iff.1 hV).1.sublist List.filter_sublist) fun x => ?_
 unfold cutsL
 rw [List.mem_filter, List.mem_filter, decide_eq_true_eq, decide_eq_true_eq, mem_upto]
 have e : 1 < cntI (blocksL n E V L) x ↔ 1 < (hasIn (blocksL n E V L) x).length := by unfold cntI; omega
 rw [e]
 refine ⟨fun h => ⟨?_, h.2⟩, fun h => ⟨(rises_iff.1 hV).2 x h.1, h.2⟩⟩
 have hpos : 0 < (hasIn (blocksL n E V L) x).length := by omega
 have hm := List.getElem_mem hpos
 obtain ⟨h1, h2⟩ := List.mem_filter.1 hm
 exact (block_rises hp h1).2.2.1 x (of_decide_eq_true h2)
def cutsE (n : Int) (E : List (Int × Int)) (V L : List Int) : List Int := if partE n E V L ≠ 0 then [] else cutsL V (blocksL n E V L)
def solidB (n : Int) (E : List (Int × Int)) (V L : List Int) : Bool := (decide (partE n E V L = 0) && decide (((blocksE n E V L).length : Int) = 1)) && (decide (((blocksE n E V L).getD (0 : Int).toNat ([], [])).1 = V) && decide (((blocksE n E V L).getD (0 : Int).toNat ([], [])).2 = L))
section
variable {n : Int} {E : List (Int × Int)} {V L : List Int} {a but : Int}
def repsL (n : Int) (E : List (Int × Int)) (V L M : List Int) : List (List Int × List Int) := (M.filter fun e => decide ((classL E V L e).getD 0 0 = e)).map fun e => (touchL E (classL E V L e) n, classL E V L e)
end
theorem Try.E56 : Elem Try.prog 56 29 2 48 := elem_of (z := .agg #[.slice none 0 0, .slice none 0 0]) Try.underlying56 (by kernel_rfl) rfl (by decide)
theorem equal_any (v u : Value) (l m : List Int) (w : World) (hl : Rd (· < w.heap.size) w v l) (hm : Rd (· < w.heap.size) w u m) :
 Calls Try.prog 76 [v, u].toArray w (Ans (.bool (decide (l = m))) w) := by
 have hlen := rd_len hl
 refine enter Try.f76 26 Try.func76 fun a hA => ?_
 replace hA := env_sub [(0, v), (1, u)] hA
 have H := Fr.start (org w)
 refine go_seq fun K1 hK1 => ?_
 refine q_reg [] [(0, v), (1, u)] (TT ∧ True) hA H ⟨tv, tv⟩ fun a w2 hA H hG => ?_
 refine hK1 _ _ ?_
 refine go_seq fun K3 hK3 => ?_
 refine go_seq fun K4 hK4 => ?_
 refine q_reg [(7, iv (l.length : Int)), (9, iv (m.length : Int))] [(0, v), (1, u), (10, .bool (!decide ((l.length : Int) = (m.length : Int))))] (TT ∧ (LenOk v (l.length : Int)) ∧ TT ∧ (LenOk u (m.length : Int)) ∧ TT ∧ True) hA H ⟨tv, by exact len_ok (H.arg hl), tv, by exact len_ok (H.arg hm), tv, tv⟩ fun a w5 hA H hG => ?_
 refine hK4 _ _ ?_
 refine go_cond hA (.tmp 10) (!decide ((l.length : Int) = (m.length : Int))) (fun hb6 => ?_) (fun hb6 => ?_)
 · have hhb6 := of_decide_eq_false (nT hb6)
   refine go_seq fun K7 hK7 => ?_
   refine q_reg [] [(4, .bool false)] (TT ∧ True) hA H ⟨tv, tv⟩ fun a w8 hA H hG => ?_
   refine hK7 _ _ ?_
   refine go_ret_ ?_
   refine ret_one 4 (.bool false) hA ?_
   exact ans_b' ((decide_eq_false (fun q => hhb6 (by rw [q]))).symm) H.below
 have hhb6 := of_decide_eq_true (nF hb6)
 refine go_skip ?_
 refine hK3 _ _ ?_
 refine go_seq fun K9 hK9 => ?_
 refine go_seq fun K10 hK10 => ?_
 refine q_reg [(12, iv (l.length : Int))] [(0, v), (1, u), (12, iv (l.length : Int)), (13, iv 0)] (TT ∧ (LenOk v (l.length : Int)) ∧ TT ∧ True) hA H ⟨tv, by exact len_ok (H.arg hl), tv, tv⟩ fun a w11 hA H hG => ?_
 refine hK10 _ _ ?_
 refine go_block 0 ?_
 refine go_loop_ (Int) (fun x_ a W => (fun (i : Int) => EnvOk 26 a (keepEnv [(0, v), (1, u), (12, iv (l.length : Int)), (13, iv i)]) ∧ (∃ S, Fr (org w) W S []) ∧ 0 ≤ i ∧ ∀ j : Nat, (j : Int) < i → l.getD j 0 = m.getD j 0) x_) (fun x_ => (fun (i : Int) => ((l.length : Int) - i).toNat) x_) (0) ?_ (fun i a w13 hI => ?_)
 · (try dsimp only); exact ⟨env_sub _ hA, ⟨_, H⟩, by omega, fun j hj => by omega⟩
 obtain ⟨hA, ⟨S, H⟩, h0, hok⟩ := hI
 try dsimp only at h0 hok
 refine go_seq fun K14 hK14 => ?_
 refine q_reg [] [(0, v), (1, u), (12, iv (l.length : Int)), (13, iv i), (14, .bool (decide (i < (l.length : Int))))] (TT ∧ True) hA H ⟨tv, tv⟩ fun a w15 hA H hG => ?_
 refine hK14 _ _ ?_
 refine go_seq fun K16 hK16 => ?_
 refine go_cond hA (.tmp 14) (decide (i < (l.length : Int))) (fun hb17 => ?_) (fun hb17 => ?_)
 · have hhb17 := of_decide_eq_true hb17
   refine go_skip ?_
   refine hK16 _ _ ?_
   refine go_seq fun K18 hK18 => ?_
   refine go_block 1 ?_
   refine go_seq fun K19 hK19 => ?_
   refine q_reg [] [(0, v), (1, u), (5, iv i), (12, iv (l.length : Int)), (13, iv i)] (TT ∧ TT ∧ True) hA H ⟨tv, tv, tv⟩ fun a w20 hA H hG => ?_
   refine hK19 _ _ ?_
   refine go_seq fun K21 hK21 => ?_
   refine q_draw [(19, iv (l.getD i.toNat 0)), (23, iv (m.getD i.toNat 0))] [(0, v), (1, u), (12, iv (l.length : Int)), (13, iv i), (24, .bool (!decide ((l.getD i.toNat 0) = (m.getD i.toNat 0))))] (TT ∧ TT ∧ ((Try.prog.info? 3).isSome = true ∧ IdxOk v i) ∧ (CellOk (On w20) (hdB v) (hdO v + i.toNat * 1) (.int .i64 (l.getD i.toNat 0))) ∧ TT ∧ TT ∧ ((Try.prog.info? 3).isSome = true ∧ IdxOk u i) ∧ (CellOk (On w20) (hdB u) (hdO u + i.toNat * 1) (.int .i64 (m.getD i.toNat 0))) ∧ TT ∧ True) hA H ⟨tv, tv, ⟨by kernel_rfl, by exact idx_ok (H.arg hl) (by omega) (by omega)⟩, by exact cell_flat (i := i) (H.arg hl) (by omega) (by omega) 0 0, tv, tv, ⟨by kernel_rfl, by exact idx_ok (H.arg hm) (by omega) (by omega)⟩, by exact cell_flat (i := i) (H.arg hm) (by omega) (by omega) 0 0, tv, tv⟩ fun a w22 hA H hG => ?_
   refine hK21 _ _ ?_
   refine go_cond hA (.tmp 24) (!decide ((l.getD i.toNat 0) = (m.getD i.toNat 0))) (fun hb23 => ?_) (fun hb23 => ?_)
   · have hhb23 := of_decide_eq_false (nT hb23)
     refine go_seq fun K24 hK24 => ?_
     refine q_reg [] [(4, .bool false)] (TT ∧ True) hA H ⟨tv, tv⟩ fun a w25 hA H hG => ?_
     refine hK24 _ _ ?_
     refine go_ret_ ?_
     refine ret_one 4 (.bool false) hA ?_
     exact ans_b' ((decide_eq_false (fun q => hhb23 (by rw [q]))).symm) H.below
   have hhb23 := of_decide_eq_true (nF hb23)
   refine go_skip ?_
   refine hK18 _ _ ?_
   refine q_reg [] [(0, v), (1, u), (12, iv (l.length : Int)), (13, iv (i + 1))] ((InR .i64 (i + 1)) ∧ TT ∧ True) hA H ⟨⟨by omega, by omega⟩, tv, tv⟩ fun a w26 hA H hG => ?_
   refine ⟨(i + 1), ⟨env_sub _ hA, ⟨_, H⟩, ?_⟩, ?_⟩
   · (try dsimp only); exact ⟨by omega, fun j hj => if e : (j : Int) = i then (by rw [show j = i.toNat by omega]; exact hhb23) else hok j (by omega)⟩
   (try dsimp only); omega
 have hhb17 := of_decide_eq_false hb17
 refine go_exit 0 ?_
 refine hK9 _ _ ?_
 refine go_seq fun K27 hK27 => ?_
 refine q_reg [] [(4, .bool true)] (TT ∧ True) hA H ⟨tv, tv⟩ fun a w28 hA H hG => ?_
 refine hK27 _ _ ?_
 refine go_ret_ ?_
 refine ret_one 4 (.bool true) hA ?_
 exact ans_b' ((decide_eq_true (eq_of_getD hhb6 (fun j hj => hok j (by omega)))).symm) H.below
theorem requal_any (v u : Value) (l m : List Int) (w : World) (hl : Rd (· < w.heap.size) w v l) (hm : Rd (· < w.heap.size) w u m) :
 Calls Try.prog 36 [v, u].toArray w (Ans (.bool (decide (l = m))) w) := by
 have hlen := rd_len hl
 refine enter Try.f36 26 Try.func36 fun a hA => ?_
 replace hA := env_sub [(0, v), (1, u)] hA
 have H := Fr.start (org w)
 refine go_seq fun K1 hK1 => ?_
 refine q_reg [] [(0, v), (1, u)] (TT ∧ True) hA H ⟨tv, tv⟩ fun a w2 hA H hG => ?_
 refine hK1 _ _ ?_
 refine go_seq fun K3 hK3 => ?_
 refine go_seq fun K4 hK4 => ?_
 refine q_reg [(7, iv (l.length : Int)), (9, iv (m.length : Int))] [(0, v), (1, u), (10, .bool (!decide ((l.length : Int) = (m.length : Int))))] (TT ∧ (LenOk v (l.length : Int)) ∧ TT ∧ (LenOk u (m.length : Int)) ∧ TT ∧ True) hA H ⟨tv, by exact len_ok (H.arg hl), tv, by exact len_ok (H.arg hm), tv, tv⟩ fun a w5 hA H hG => ?_
 refine hK4 _ _ ?_
 refine go_cond hA (.tmp 10) (!decide ((l.length : Int) = (m.length : Int))) (fun hb6 => ?_) (fun hb6 => ?_)
 · have hhb6 := of_decide_eq_false (nT hb6)
   refine go_seq fun K7 hK7 => ?_
   refine q_reg [] [(4, .bool false)] (TT ∧ True) hA H ⟨tv, tv⟩ fun a w8 hA H hG => ?_
   refine hK7 _ _ ?_
   refine go_ret_ ?_
   refine ret_one 4 (.bool false) hA ?_
   exact ans_b' ((decide_eq_false (fun q => hhb6 (by rw [q]))).symm) H.below
 have hhb6 := of_decide_eq_true (nF hb6)
 refine go_skip ?_
 refine hK3 _ _ ?_
 refine go_seq fun K9 hK9 => ?_
 refine go_seq fun K10 hK10 => ?_
 refine q_reg [] [(0, v), (1, u), (5, iv 0)] (TT ∧ True) hA H ⟨tv, tv⟩ fun a w11 hA H hG => ?_
 refine hK10 _ _ ?_
 refine go_block 0 ?_
 refine go_loop_ (Int) (fun x_ a W => (fun (i : Int) => EnvOk 26 a (keepEnv [(0, v), (1, u), (5, iv i)]) ∧ (∃ S, Fr (org w) W S []) ∧ 0 ≤ i ∧ ∀ j : Nat, (j : Int) < i → l.getD j 0 = m.getD j 0) x_) (fun x_ => (fun (i : Int) => ((l.length : Int) - i).toNat) x_) (0) ?_ (fun i a w13 hI => ?_)
 · (try dsimp only); exact ⟨env_sub _ hA, ⟨_, H⟩, by omega, fun j hj => by omega⟩
 obtain ⟨hA, ⟨S, H⟩, h0, hok⟩ := hI
 try dsimp only at h0 hok
 refine go_seq fun K14 hK14 => ?_
 refine go_seq fun K15 hK15 => ?_
 refine q_reg [(13, iv (l.length : Int))] [(0, v), (1, u), (5, iv i), (14, .bool (decide (i < (l.length : Int))))] (TT ∧ TT ∧ (LenOk v (l.length : Int)) ∧ TT ∧ True) hA H ⟨tv, tv, by exact len_ok (H.arg hl), tv, tv⟩ fun a w16 hA H hG => ?_
 refine hK15 _ _ ?_
 refine go_cond hA (.tmp 14) (decide (i < (l.length : Int))) (fun hb17 => ?_) (fun hb17 => ?_)
 · have hhb17 := of_decide_eq_true hb17
   refine go_skip ?_
   refine hK14 _ _ ?_
   refine go_seq fun K18 hK18 => ?_
   refine go_block 1 ?_
   refine go_seq fun K19 hK19 => ?_
   refine q_draw [(20, iv (l.getD i.toNat 0)), (24, iv (m.getD i.toNat 0))] [(0, v), (1, u), (5, iv i), (25, .bool (!decide ((l.getD i.toNat 0) = (m.getD i.toNat 0))))] (TT ∧ TT ∧ ((Try.prog.info? 3).isSome = true ∧ IdxOk v i) ∧ (CellOk (On w16) (hdB v) (hdO v + i.toNat * 1) (.int .i64 (l.getD i.toNat 0))) ∧ TT ∧ TT ∧ ((Try.prog.info? 3).isSome = true ∧ IdxOk u i) ∧ (CellOk (On w16) (hdB u) (hdO u + i.toNat * 1) (.int .i64 (m.getD i.toNat 0))) ∧ TT ∧ True) hA H ⟨tv, tv, ⟨by kernel_rfl, by exact idx_ok (H.arg hl) (by omega) (by omega)⟩, by exact cell_flat (i := i) (H.arg hl) (by omega) (by omega) 0 0, tv, tv, ⟨by kernel_rfl, by exact idx_ok (H.arg hm) (by omega) (by omega)⟩, by exact cell_flat (i := i) (H.arg hm) (by omega) (by omega) 0 0, tv, tv⟩ fun a w20 hA H hG => ?_
   refine hK19 _ _ ?_
   refine go_cond hA (.tmp 25) (!decide ((l.getD i.toNat 0) = (m.getD i.toNat 0))) (fun hb21 => ?_) (fun hb21 => ?_)
   · have hhb21 := of_decide_eq_false (nT hb21)
     refine go_seq fun K22 hK22 => ?_
     refine q_reg [] [(4, .bool false)] (TT ∧ True) hA H ⟨tv, tv⟩ fun a w23 hA H hG => ?_
     refine hK22 _ _ ?_
     refine go_ret_ ?_
     refine ret_one 4 (.bool false) hA ?_
     exact ans_b' ((decide_eq_false (fun q => hhb21 (by rw [q]))).symm) H.below
   have hhb21 := of_decide_eq_true (nF hb21)
   refine go_skip ?_
   refine hK18 _ _ ?_
   refine q_reg [] [(0, v), (1, u), (5, iv (i + 1))] (TT ∧ (InR .i64 (i + 1)) ∧ TT ∧ True) hA H ⟨tv, ⟨by omega, by omega⟩, tv, tv⟩ fun a w24 hA H hG => ?_
   refine ⟨(i + 1), ⟨env_sub _ hA, ⟨_, H⟩, ?_⟩, ?_⟩
   · (try dsimp only); exact ⟨by omega, fun j hj => if e : (j : Int) = i then (by rw [show j = i.toNat by omega]; exact hhb21) else hok j (by omega)⟩
   (try dsimp only); omega
 have hhb17 := of_decide_eq_false hb17
 refine go_exit 0 ?_
 refine hK9 _ _ ?_
 refine go_seq fun K25 hK25 => ?_
 refine q_reg [] [(4, .bool true)] (TT ∧ True) hA H ⟨tv, tv⟩ fun a w26 hA H hG => ?_
 refine hK25 _ _ ?_
 refine go_ret_ ?_
 refine ret_one 4 (.bool true) hA ?_
 exact ans_b' ((decide_eq_true (eq_of_getD hhb6 (fun j hj => hok j (by omega)))).symm) H.below
theorem same_any (va ea vb eb : Value) (A B C D : List Int) (w : World) (gA : Rd (· < w.heap.size) w va A) (gB : Rd (· < w.heap.size) w ea B) (gC : Rd (· < w.heap.size) w vb C) (gD : Rd (· < w.heap.size) w eb D) :
 Calls Try.prog 28 [.agg #[va, ea], .agg #[vb, eb]].toArray w (Ans (.bool (decide (A = C) && decide (B = D))) w) := by
 refine enter Try.f28 17 Try.func28 fun a hA => ?_
 replace hA := env_sub [(0, .agg #[va, ea]), (1, .agg #[vb, eb])] hA
 have H := Fr.start (org w)
 refine go_seq fun K1 hK1 => ?_
 refine region_list ?_
 refine list_at 0 ?_; refine q_box 0 2 29 (.tmp 0) (.agg #[va, ea]) [va, ea] [(1, .agg #[vb, eb])] hA H fun b2 a w3 H hA hG hge_b2 => ?_
 clear hge_b2
 refine list_at 1 ?_; refine q_box 1 3 29 (.tmp 1) (.agg #[vb, eb]) [vb, eb] [(2, pv b2)] hA H fun b4 a w5 H hA hG hge_b4 => ?_
 clear hge_b4
 refine q_list 2 1 [] [(2, pv b2), (3, pv b4)] (TT ∧ True) hA H ⟨tv, tv⟩ fun a w6 hA H hG => ?_
 refine list_end ?_
 refine hK1 _ _ ?_
 refine go_seq fun K7 hK7 => ?_
 refine q_reg [(6, va), (8, vb), (9, .bool (decide (A = C))), (12, ea), (14, eb), (15, .bool (decide (B = D)))] [(4, .bool ((decide (A = C)) && (decide (B = D))))] ((0 < Try.prog.cellsOf 27) ∧ (CellOk (On w6) b2 (0 + 0) (va)) ∧ (0 < Try.prog.cellsOf 27) ∧ (CellOk (On w6) b4 (0 + 0) (vb)) ∧ (Callable Try.prog 76 ∧ CallOk Try.prog (On w6) 76 [va, vb].toArray (.bool (decide (A = C)))) ∧ TT ∧ ((decide (A = C)) = true → 0 < Try.prog.cellsOf 27) ∧ ((decide (A = C)) = true → CellOk (On w6) b2 (0 + 1) (ea)) ∧ ((decide (A = C)) = true → 0 < Try.prog.cellsOf 27) ∧ ((decide (A = C)) = true → CellOk (On w6) b4 (0 + 1) (eb)) ∧ ((decide (A = C)) = true → Callable Try.prog 76 ∧ CallOk Try.prog (On w6) 76 [ea, eb].toArray (.bool (decide (B = D)))) ∧ TT ∧ TT ∧ True) hA H ⟨by decide +kernel, by exact box_cell H 1 rfl 0, by decide +kernel, by exact box_cell H 0 rfl 0, ⟨callable_of, callOk_of fun w hw => by exact equal_any va vb A C w (((H.on hw).arg gA)) (((H.on hw).arg gC))⟩, tv, fun _ => by decide +kernel, fun _ => by exact box_cell H 1 rfl 1, fun _ => by decide +kernel, fun _ => by exact box_cell H 0 rfl 1, fun _ => ⟨callable_of, callOk_of fun w hw => by exact equal_any ea eb B D w (((H.on hw).arg gB)) (((H.on hw).arg gD))⟩, tv, tv, tv⟩ fun a w8 hA H hG => ?_
 refine hK7 _ _ ?_
 refine go_ret_ ?_
 refine ret_one 4 (.bool ((decide (A = C)) && (decide (B = D)))) hA ?_
 exact ans_b' rfl H.below
theorem in_any (v : Value) (l : List Int) (x : Int) (w : World) (hl : Rd (· < w.heap.size) w v l) :
 Calls Try.prog 24 [v, .int .i64 x].toArray w (Ans (.bool (decide (x ∈ l))) w) := by
 have hlen := rd_len hl
 refine enter Try.f24 18 Try.func24 fun a hA => ?_
 replace hA := env_sub [(0, v), (1, iv x)] hA
 have H := Fr.start (org w)
 refine go_seq fun K1 hK1 => ?_
 refine q_reg [] [(0, v), (1, iv x)] (TT ∧ True) hA H ⟨tv, tv⟩ fun a w2 hA H hG => ?_
 refine hK1 _ _ ?_
 refine go_seq fun K3 hK3 => ?_
 refine go_seq fun K4 hK4 => ?_
 refine q_reg [] [(0, v), (1, iv x), (5, iv 0)] (TT ∧ True) hA H ⟨tv, tv⟩ fun a w5 hA H hG => ?_
 refine hK4 _ _ ?_
 refine go_block 0 ?_
 refine go_loop_ (Int) (fun x_ a W => (fun (i : Int) => EnvOk 18 a (keepEnv [(0, v), (1, iv x), (5, iv i)]) ∧ (∃ S, Fr (org w) W S []) ∧ 0 ≤ i ∧ ∀ j : Nat, (j : Int) < i → l.getD j 0 ≠ x) x_) (fun x_ => (fun (i : Int) => ((l.length : Int) - i).toNat) x_) (0) ?_ (fun i a w7 hI => ?_)
 · (try dsimp only); exact ⟨env_sub _ hA, ⟨_, H⟩, by omega, fun j hj => by omega⟩
 obtain ⟨hA, ⟨S, H⟩, h0, hok⟩ := hI
 try dsimp only at h0 hok
 refine go_seq fun K8 hK8 => ?_
 refine go_seq fun K9 hK9 => ?_
 refine q_reg [(8, iv (l.length : Int))] [(0, v), (1, iv x), (5, iv i), (9, .bool (decide (i < (l.length : Int))))] (TT ∧ TT ∧ (LenOk v (l.length : Int)) ∧ TT ∧ True) hA H ⟨tv, tv, by exact len_ok (H.arg hl), tv, tv⟩ fun a w10 hA H hG => ?_
 refine hK9 _ _ ?_
 refine go_cond hA (.tmp 9) (decide (i < (l.length : Int))) (fun hb11 => ?_) (fun hb11 => ?_)
 · have hhb11 := of_decide_eq_true hb11
   refine go_skip ?_
   refine hK8 _ _ ?_
   refine go_seq fun K12 hK12 => ?_
   refine go_block 1 ?_
   refine go_seq fun K13 hK13 => ?_
   refine q_reg [(15, iv (l.getD i.toNat 0))] [(0, v), (1, iv x), (5, iv i), (17, .bool (decide ((l.getD i.toNat 0) = x)))] (TT ∧ TT ∧ ((Try.prog.info? 3).isSome = true ∧ IdxOk v i) ∧ (CellOk (On w10) (hdB v) (hdO v + i.toNat * 1) (.int .i64 (l.getD i.toNat 0))) ∧ TT ∧ TT ∧ True) hA H ⟨tv, tv, ⟨by kernel_rfl, by exact idx_ok (H.arg hl) (by omega) (by omega)⟩, by exact cell_flat (i := i) (H.arg hl) (by omega) (by omega) 0 0, tv, tv, tv⟩ fun a w14 hA H hG => ?_
   refine hK13 _ _ ?_
   refine go_cond hA (.tmp 17) (decide ((l.getD i.toNat 0) = x)) (fun hb15 => ?_) (fun hb15 => ?_)
   · have hhb15 := of_decide_eq_true hb15
     refine go_seq fun K16 hK16 => ?_
     refine q_reg [] [(4, .bool true)] (TT ∧ True) hA H ⟨tv, tv⟩ fun a w17 hA H hG => ?_
     refine hK16 _ _ ?_
     refine go_ret_ ?_
     refine ret_one 4 (.bool true) hA ?_
     exact ans_b' ((decide_eq_true (mem_getD.2 ⟨i.toNat, by omega, hhb15⟩)).symm) H.below
   have hhb15 := of_decide_eq_false hb15
   refine go_skip ?_
   refine hK12 _ _ ?_
   refine q_reg [] [(0, v), (1, iv x), (5, iv (i + 1))] (TT ∧ (InR .i64 (i + 1)) ∧ TT ∧ True) hA H ⟨tv, ⟨by omega, by omega⟩, tv, tv⟩ fun a w18 hA H hG => ?_
   refine ⟨(i + 1), ⟨env_sub _ hA, ⟨_, H⟩, ?_⟩, ?_⟩
   · (try dsimp only); exact ⟨by omega, fun j hj => if e : (j : Int) = i then (by rw [show j = i.toNat by omega]; exact hhb15) else hok j (by omega)⟩
   (try dsimp only); omega
 have hhb11 := of_decide_eq_false hb11
 refine go_exit 0 ?_
 refine hK3 _ _ ?_
 refine go_seq fun K19 hK19 => ?_
 refine q_reg [] [(4, .bool false)] (TT ∧ True) hA H ⟨tv, tv⟩ fun a w20 hA H hG => ?_
 refine hK19 _ _ ?_
 refine go_ret_ ?_
 refine ret_one 4 (.bool false) hA ?_
 exact ans_b' ((decide_eq_false (fun q => by obtain ⟨j, hj, e⟩ := mem_getD.1 q; exact hok j (by omega) e)).symm) H.below
theorem small_any (n : Int) (ve : Value) (E : List (Int × Int)) (vv vl : Value) (V L : List Int) (w : World) (hn : -9223372036854775808 ≤ n ∧ n ≤ 9223372036854775807) (hE : Rd (· < w.heap.size) w ve E) (hV : Rd (· < w.heap.size) w vv V) (hL : Rd (· < w.heap.size) w vl L) :
 Calls Try.prog 18 [.agg #[.int .i64 n, ve], .agg #[vv, vl]].toArray w (Ans (.int .i64 (smallI n E V L)) w) := by
 have hlen1 := rd_len hE
 have hlen2 := rd_len hV
 have hlen3 := rd_len hL
 refine enter Try.f18 31 Try.func18 fun a hA => ?_
 replace hA := env_sub [(0, .agg #[.int .i64 n, ve]), (1, .agg #[vv, vl])] hA
 have H := Fr.start (org w)
 refine go_seq fun K1 hK1 => ?_
 refine region_list ?_
 refine list_at 0 ?_; refine q_box 0 2 24 (.tmp 0) (.agg #[.int .i64 n, ve]) [.int .i64 n, ve] [(1, .agg #[vv, vl])] hA H fun b2 a w3 H hA hG hge_b2 => ?_
 clear hge_b2
 refine list_at 1 ?_; refine q_box 1 3 29 (.tmp 1) (.agg #[vv, vl]) [vv, vl] [(2, pv b2)] hA H fun b4 a w5 H hA hG hge_b4 => ?_
 clear hge_b4
 refine q_list 2 1 [] [(2, pv b2), (3, pv b4)] (TT ∧ True) hA H ⟨tv, tv⟩ fun a w6 hA H hG => ?_
 refine list_end ?_
 refine hK1 _ _ ?_
 refine go_seq fun K7 hK7 => ?_
 refine go_seq fun K8 hK8 => ?_
 refine q_reg [(6, ve), (7, iv (E.length : Int)), (11, vv), (12, iv (V.length : Int)), (17, vl), (18, iv (L.length : Int)), (23, iv n), (27, iv n)] [(30, .bool ((((decide ((60 : Int) < (E.length : Int))) || (decide ((60 : Int) < (V.length : Int)))) || (decide ((60 : Int) < (L.length : Int)))) || ((decide ((60 : Int) < n)) && (decide (n ≤ 1024)))))] ((0 < Try.prog.cellsOf 22) ∧ (CellOk (On w6) b2 (0 + 1) (ve)) ∧ (LenOk ve (E.length : Int)) ∧ TT ∧ TT ∧ ((decide ((60 : Int) < (E.length : Int))) = false → 0 < Try.prog.cellsOf 27) ∧ ((decide ((60 : Int) < (E.length : Int))) = false → CellOk (On w6) b4 (0 + 0) (vv)) ∧ ((decide ((60 : Int) < (E.length : Int))) = false → LenOk vv (V.length : Int)) ∧ ((decide ((60 : Int) < (E.length : Int))) = false → True) ∧ TT ∧ TT ∧ (((decide ((60 : Int) < (E.length : Int))) || (decide ((60 : Int) < (V.length : Int)))) = false → 0 < Try.prog.cellsOf 27) ∧ (((decide ((60 : Int) < (E.length : Int))) || (decide ((60 : Int) < (V.length : Int)))) = false → CellOk (On w6) b4 (0 + 1) (vl)) ∧ (((decide ((60 : Int) < (E.length : Int))) || (decide ((60 : Int) < (V.length : Int)))) = false → LenOk vl (L.length : Int)) ∧ (((decide ((60 : Int) < (E.length : Int))) || (decide ((60 : Int) < (V.length : Int)))) = false → True) ∧ TT ∧ TT ∧ ((((decide ((60 : Int) < (E.length : Int))) || (decide ((60 : Int) < (V.length : Int)))) || (decide ((60 : Int) < (L.length : Int)))) = false → 0 < Try.prog.cellsOf 3) ∧ ((((decide ((60 : Int) < (E.length : Int))) || (decide ((60 : Int) < (V.length : Int)))) || (decide ((60 : Int) < (L.length : Int)))) = false → CellOk (On w6) b2 (0 + 0) (.int .i64 n)) ∧ ((((decide ((60 : Int) < (E.length : Int))) || (decide ((60 : Int) < (V.length : Int)))) || (decide ((60 : Int) < (L.length : Int)))) = false → True) ∧ ((((decide ((60 : Int) < (E.length : Int))) || (decide ((60 : Int) < (V.length : Int)))) || (decide ((60 : Int) < (L.length : Int)))) = false → True) ∧ ((((decide ((60 : Int) < (E.length : Int))) || (decide ((60 : Int) < (V.length : Int)))) || (decide ((60 : Int) < (L.length : Int)))) = false → (decide ((60 : Int) < n)) = true → 0 < Try.prog.cellsOf 3) ∧ ((((decide ((60 : Int) < (E.length : Int))) || (decide ((60 : Int) < (V.length : Int)))) || (decide ((60 : Int) < (L.length : Int)))) = false → (decide ((60 : Int) < n)) = true → CellOk (On w6) b2 (0 + 0) (.int .i64 n)) ∧ ((((decide ((60 : Int) < (E.length : Int))) || (decide ((60 : Int) < (V.length : Int)))) || (decide ((60 : Int) < (L.length : Int)))) = false → (decide ((60 : Int) < n)) = true → True) ∧ ((((decide ((60 : Int) < (E.length : Int))) || (decide ((60 : Int) < (V.length : Int)))) || (decide ((60 : Int) < (L.length : Int)))) = false → True) ∧ TT ∧ True) hA H ⟨by decide +kernel, by exact box_cell H 1 rfl 1, by exact len_ok (H.arg hE), tv, tv, fun _ => by decide +kernel, fun _ => by exact box_cell H 0 rfl 0, fun _ => by exact len_ok (H.arg hV), fun _ => trivial, tv, tv, fun _ => by decide +kernel, fun _ => by exact box_cell H 0 rfl 1, fun _ => by exact len_ok (H.arg hL), fun _ => trivial, tv, tv, fun _ => by decide +kernel, fun _ => by exact box_cell H 1 rfl 0, fun _ => trivial, fun _ => trivial, fun _ _ => by decide +kernel, fun _ _ => by exact box_cell H 1 rfl 0, fun _ _ => trivial, fun _ => trivial, tv, tv⟩ fun a w9 hA H hG => ?_
 refine hK8 _ _ ?_
 refine go_cond hA (.tmp 30) ((((decide ((60 : Int) < (E.length : Int))) || (decide ((60 : Int) < (V.length : Int)))) || (decide ((60 : Int) < (L.length : Int)))) || ((decide ((60 : Int) < n)) && (decide (n ≤ 1024)))) (fun hb10 => ?_) (fun hb10 => ?_)
 · have hhb10 := (oT hb10).imp (fun h => (oT h).imp (fun h => (oT h).imp (fun h => of_decide_eq_true h) (fun h => of_decide_eq_true h)) (fun h => of_decide_eq_true h)) (fun h => (⟨of_decide_eq_true ((aT h).1), of_decide_eq_true ((aT h).2)⟩ : _ ∧ _))
   refine go_seq fun K11 hK11 => ?_
   refine q_reg [] [(4, iv 0)] (TT ∧ True) hA H ⟨tv, tv⟩ fun a w12 hA H hG => ?_
   refine hK11 _ _ ?_
   refine go_ret_ ?_
   refine ret_one 4 (.int .i64 0) hA ?_
   exact ans_i' (by unfold smallI; first | rw [if_pos (by omega)] | rw [if_neg (by omega)]) H.below
 have hhb10 := (⟨(⟨(⟨of_decide_eq_false ((oF ((oF ((oF hb10).1)).1)).1), of_decide_eq_false ((oF ((oF ((oF hb10).1)).1)).2)⟩ : _ ∧ _), of_decide_eq_false ((oF ((oF hb10).1)).2)⟩ : _ ∧ _), (aF ((oF hb10).2)).imp (fun h => of_decide_eq_false h) (fun h => of_decide_eq_false h)⟩ : _ ∧ _)
 refine go_skip ?_
 refine hK7 _ _ ?_
 refine go_seq fun K13 hK13 => ?_
 refine q_reg [] [(4, iv 1)] (TT ∧ True) hA H ⟨tv, tv⟩ fun a w14 hA H hG => ?_
 refine hK13 _ _ ?_
 refine go_ret_ ?_
 refine ret_one 4 (.int .i64 1) hA ?_
 exact ans_i' (by unfold smallI; first | rw [if_pos (by omega)] | rw [if_neg (by omega)]) H.below
end Go.Proofs.Ytahonnlgkmimlaa
namespace Go.Proofs.Ytahonnlgkmimlaa
open Go.RowKit
end Go.Proofs.Ytahonnlgkmimlaa
namespace Go.Proofs.Ytahonnlgkmimlaa
open Go.RowKit
theorem rwhole_any (n : Int) (ve : Value) (E : List (Int × Int)) (o : Orig) (hn : -9223372036854775808 ≤ n ∧ n ≤ 9223372036854775807) (hE : Rd (· < o.w.heap.size) o.w ve E) (hs1 : n ≤ 1000000) (hs2 : E.length ≤ 1000000) :
 Calls Try.prog 33 [.agg #[.int .i64 n, ve]].toArray o.w (Giv o (fun S v w' => Rd S w' v ((upto n, upto (E.length : Int))))) := by
 refine enter Try.f33 32 Try.func33 fun a hA => ?_
 replace hA := env_sub [(0, .agg #[.int .i64 n, ve])] hA
 have H := Fr.start o
 refine go_seq fun K1 hK1 => ?_
 refine region_list ?_
 refine list_at 0 ?_; refine q_box 0 1 24 (.tmp 0) (.agg #[.int .i64 n, ve]) [.int .i64 n, ve] [] hA H fun b2 a w3 H hA hG hge_b2 => ?_
 clear hge_b2
 refine list_at 1 ?_; refine q_alloc 1 2 29 [(.slice none 0 0), (.slice none 0 0)] [(1, pv b2)] hA H fun b4 a w5 H hA hG hge_b4 => ?_
 clear hge_b4
 refine list_end ?_
 refine hK1 _ _ ?_
 refine go_seq fun K6 hK6 => ?_
 refine region_list ?_
 refine list_at 0 ?_; refine q_alloc 0 3 29 [(.slice none 0 0), (.slice none 0 0)] [(1, pv b2), (2, pv b4)] hA H fun b7 a w8 H hA hG hge_b7 => ?_
 clear hge_b7
 replace H := H.newRow (α := Int) 3
 replace H := H.newRow (α := Int) 3
 refine list_end ?_
 refine hK6 _ _ ?_
 refine go_seq fun K9 hK9 => ?_
 refine go_seq fun K10 hK10 => ?_
 refine q_reg [] [(1, pv b2), (2, pv b4), (3, pv b7), (4, iv 0)] (TT ∧ True) hA H ⟨tv, tv⟩ fun a w11 hA H hG => ?_
 refine hK10 _ _ ?_
 refine go_block 0 ?_
 refine go_loop_ (Int × Value × List Int) (fun x_ a W => (fun (i : Int) (vr : Value) (l : List Int) => EnvOk 32 a (keepEnv [(1, pv b2), (2, pv b4), (3, pv b7), (4, iv i)]) ∧ (∃ S, Fr o W S [.row 3 (.slice none 0 0) ([] : List Int), .row 3 vr l, .box b7 29 [vr, (.slice none 0 0)], .box b4 29 [(.slice none 0 0), (.slice none 0 0)], .box b2 24 [.int .i64 n, ve]]) ∧ 0 ≤ i ∧ (i ≤ n ∨ i = 0) ∧ (l.length : Int) ≤ i ∧ l = upto i) x_.1 x_.2.1 x_.2.2) (fun x_ => (fun (i : Int) (vr : Value) (l : List Int) => (n - i).toNat) x_.1 x_.2.1 x_.2.2) (0, (.slice none 0 0), ([] : List Int)) ?_ (fun x_ a w13 hI => ?_)
 · (try dsimp only); exact ⟨env_sub _ hA, ⟨_, H⟩, by omega, by omega, by simp, rfl⟩
 obtain ⟨i, vr, l⟩ := x_
 obtain ⟨hA, ⟨S, H⟩, h0, h0a, h1, hi⟩ := hI
 try dsimp only at h0 h0a h1 hi
 replace H : Fr _ _ _ [.row 3 (.slice none 0 0) ([] : List Int), .row 3 vr l, .box b7 29 [vr, (.slice none 0 0)], .box b4 29 [(.slice none 0 0), (.slice none 0 0)], .box b2 24 [.int .i64 n, ve]] := H
 refine go_seq fun K14 hK14 => ?_
 refine go_seq fun K15 hK15 => ?_
 refine q_reg [(8, iv n)] [(1, pv b2), (2, pv b4), (3, pv b7), (4, iv i), (9, .bool (decide (i < n)))] (TT ∧ (0 < Try.prog.cellsOf 3) ∧ (CellOk (On w13) b2 (0 + 0) (.int .i64 n)) ∧ TT ∧ True) hA H ⟨tv, by decide +kernel, by exact box_cell H 4 rfl 0, tv, tv⟩ fun a w16 hA H hG => ?_
 refine hK15 _ _ ?_
 refine go_cond hA (.tmp 9) (decide (i < n)) (fun hb17 => ?_) (fun hb17 => ?_)
 · have hhb17 := of_decide_eq_true hb17
   refine go_skip ?_
   refine hK14 _ _ ?_
   refine go_seq fun K18 hK18 => ?_
   refine go_block 1 ?_
   refine region_list ?_
   refine q_list 0 3 [(13, vr)] [(1, pv b2), (2, pv b4), (3, pv b7), (4, iv i), (13, vr), (14, iv i)] ((0 < Try.prog.cellsOf 27) ∧ (CellOk (On w16) b7 (0 + 0) (vr)) ∧ TT ∧ True) hA H ⟨by decide +kernel, by exact box_cell H 2 rfl 0, tv, tv⟩ fun a w19 hA H hG => ?_
   refine list_at 3 ?_; refine q_lit 3 15 27 1 #[(0, .tmp 14)] 3 [(0, iv i)] [.int .i64 i] [(1, pv b2), (2, pv b4), (3, pv b7), (4, iv i), (13, vr)] hA H fun b20 a w21 H hA hG hge_b20 => ?_
   clear hge_b20
   refine list_at 4 ?_; refine q_push 4 16 (.tmp 13) (.tmp 15) 2 0 b20 1 1 vr l [i] [.int .i64 i] [(1, pv b2), (2, pv b4), (3, pv b7), (4, iv i)] hA H Try.E27 rfl rfl (by exact (RowRd.single (α := Int) rfl)) rfl (by simp only [List.length_cons, List.length_nil, List.length_append]; omega) (by decide) fun v22 a w23 H hA hG => ?_
   replace H : Fr _ _ _ [.row 3 (.slice none 0 0) ([] : List Int), .row 3 v22 (l ++ [i]), .box b7 29 [vr, (.slice none 0 0)], .box b4 29 [(.slice none 0 0), (.slice none 0 0)], .box b2 24 [.int .i64 n, ve]] := H.drop 0
   refine q_list 5 1 [] [(1, pv b2), (2, pv b4), (3, pv b7), (4, iv i), (16, v22), (17, .pointer (some ⟨b7, 0 + 0, none⟩))] ((0 < Try.prog.cellsOf 27) ∧ True) hA H ⟨by decide +kernel, tv⟩ fun a w24 hA H hG => ?_
   refine list_at 6 ?_; refine q_store 6 27 (.tmp 17) (.tmp 16) 2 b7 (0 + 0) 29 [vr, (.slice none 0 0)] [v22] [v22, (.slice none 0 0)] v22 [(1, pv b2), (2, pv b4), (3, pv b7), (4, iv i)] hA H rfl (one_cells (rd_one (H.out 1 rfl))) (Nat.le_of_ble_eq_true (by kernel_rfl)) rfl (fun v hv => by simp only [List.mem_cons, List.not_mem_nil, or_false] at hv; rcases hv with rfl; exact (rd_one (H.out 1 rfl))) fun a w25 H hA hG => ?_
   replace H : Fr _ _ _ [.row 3 (.slice none 0 0) ([] : List Int), .row 3 v22 (l ++ [i]), .box b7 29 [v22, (.slice none 0 0)], .box b4 29 [(.slice none 0 0), (.slice none 0 0)], .box b2 24 [.int .i64 n, ve]] := H
   refine list_end ?_
   refine hK18 _ _ ?_
   refine q_reg [] [(1, pv b2), (2, pv b4), (3, pv b7), (4, iv (i + 1))] (TT ∧ (InR .i64 (i + 1)) ∧ TT ∧ True) hA H ⟨tv, ⟨by omega, by omega⟩, tv, tv⟩ fun a w26 hA H hG => ?_
   refine ⟨(i + 1, v22, l ++ [i]), ⟨env_sub _ hA, ⟨_, H⟩, ?_⟩, ?_⟩
   · (try dsimp only); exact ⟨by omega, by omega, by (try simp only [List.length_append, List.length_cons, List.length_nil]); omega, by rw [hi, upto_succ h0]⟩
   (try dsimp only); omega
 have hhb17 := of_decide_eq_false hb17
 refine go_exit 0 ?_
 refine hK9 _ _ ?_
 refine go_seq fun K27 hK27 => ?_
 refine go_seq fun K28 hK28 => ?_
 refine q_reg [] [(1, pv b2), (2, pv b4), (3, pv b7), (5, iv 0)] (TT ∧ True) hA H ⟨tv, tv⟩ fun a w29 hA H hG => ?_
 refine hK28 _ _ ?_
 refine go_block 2 ?_
 refine go_loop_ (Int × Value × List Int) (fun x_ a W => (fun (i2 : Int) (vr2 : Value) (l2 : List Int) => EnvOk 32 a (keepEnv [(1, pv b2), (2, pv b4), (3, pv b7), (5, iv i2)]) ∧ (∃ S, Fr o W S [.row 3 vr2 l2, .row 3 vr l, .box b7 29 [vr, vr2], .box b4 29 [(.slice none 0 0), (.slice none 0 0)], .box b2 24 [.int .i64 n, ve]]) ∧ 0 ≤ i2 ∧ (i2 ≤ (E.length : Int) ∨ i2 = 0) ∧ (l2.length : Int) ≤ i2 ∧ l2 = upto i2) x_.1 x_.2.1 x_.2.2) (fun x_ => (fun (i2 : Int) (vr2 : Value) (l2 : List Int) => ((E.length : Int) - i2).toNat) x_.1 x_.2.1 x_.2.2) (0, (.slice none 0 0), ([] : List Int)) ?_ (fun x_ a w31 hI => ?_)
 · (try dsimp only); exact ⟨env_sub _ hA, ⟨_, H⟩, by omega, by omega, by simp, rfl⟩
 obtain ⟨i2, vr2, l2⟩ := x_
 obtain ⟨hA, ⟨S, H⟩, h2, h2a, h3, hi2⟩ := hI
 try dsimp only at h2 h2a h3 hi2
 replace H : Fr _ _ _ [.row 3 vr2 l2, .row 3 vr l, .box b7 29 [vr, vr2], .box b4 29 [(.slice none 0 0), (.slice none 0 0)], .box b2 24 [.int .i64 n, ve]] := H
 refine go_seq fun K32 hK32 => ?_
 refine go_seq fun K33 hK33 => ?_
 refine q_reg [(20, ve), (21, iv (E.length : Int))] [(1, pv b2), (2, pv b4), (3, pv b7), (5, iv i2), (22, .bool (decide (i2 < (E.length : Int))))] (TT ∧ (0 < Try.prog.cellsOf 22) ∧ (CellOk (On w31) b2 (0 + 1) (ve)) ∧ (LenOk ve (E.length : Int)) ∧ TT ∧ True) hA H ⟨tv, by decide +kernel, by exact box_cell H 4 rfl 1, by exact len_ok (H.arg hE), tv, tv⟩ fun a w34 hA H hG => ?_
 refine hK33 _ _ ?_
 refine go_cond hA (.tmp 22) (decide (i2 < (E.length : Int))) (fun hb35 => ?_) (fun hb35 => ?_)
 · have hhb35 := of_decide_eq_true hb35
   refine go_skip ?_
   refine hK32 _ _ ?_
   refine go_seq fun K36 hK36 => ?_
   refine go_block 3 ?_
   refine region_list ?_
   refine q_list 0 3 [(26, vr2)] [(1, pv b2), (2, pv b4), (3, pv b7), (5, iv i2), (26, vr2), (27, iv i2)] ((0 < Try.prog.cellsOf 27) ∧ (CellOk (On w34) b7 (0 + 1) (vr2)) ∧ TT ∧ True) hA H ⟨by decide +kernel, by exact box_cell H 2 rfl 1, tv, tv⟩ fun a w37 hA H hG => ?_
   refine list_at 3 ?_; refine q_lit 3 28 27 1 #[(0, .tmp 27)] 3 [(0, iv i2)] [.int .i64 i2] [(1, pv b2), (2, pv b4), (3, pv b7), (5, iv i2), (26, vr2)] hA H fun b38 a w39 H hA hG hge_b38 => ?_
   clear hge_b38
   refine list_at 4 ?_; refine q_push 4 29 (.tmp 26) (.tmp 28) 1 0 b38 1 1 vr2 l2 [i2] [.int .i64 i2] [(1, pv b2), (2, pv b4), (3, pv b7), (5, iv i2)] hA H Try.E27 rfl rfl (by exact (RowRd.single (α := Int) rfl)) rfl (by simp only [List.length_cons, List.length_nil, List.length_append]; omega) (by decide) fun v40 a w41 H hA hG => ?_
   replace H : Fr _ _ _ [.row 3 v40 (l2 ++ [i2]), .row 3 vr l, .box b7 29 [vr, vr2], .box b4 29 [(.slice none 0 0), (.slice none 0 0)], .box b2 24 [.int .i64 n, ve]] := H.drop 0
   refine q_list 5 1 [] [(1, pv b2), (2, pv b4), (3, pv b7), (5, iv i2), (29, v40), (30, .pointer (some ⟨b7, 0 + 1, none⟩))] ((0 < Try.prog.cellsOf 27) ∧ True) hA H ⟨by decide +kernel, tv⟩ fun a w42 hA H hG => ?_
   refine list_at 6 ?_; refine q_store 6 27 (.tmp 30) (.tmp 29) 2 b7 (0 + 1) 29 [vr, vr2] [v40] [vr, v40] v40 [(1, pv b2), (2, pv b4), (3, pv b7), (5, iv i2)] hA H rfl (one_cells (rd_one (H.out 0 rfl))) (Nat.le_of_ble_eq_true (by kernel_rfl)) rfl (fun v hv => by simp only [List.mem_cons, List.not_mem_nil, or_false] at hv; rcases hv with rfl; exact (rd_one (H.out 0 rfl))) fun a w43 H hA hG => ?_
   replace H : Fr _ _ _ [.row 3 v40 (l2 ++ [i2]), .row 3 vr l, .box b7 29 [vr, v40], .box b4 29 [(.slice none 0 0), (.slice none 0 0)], .box b2 24 [.int .i64 n, ve]] := H
   refine list_end ?_
   refine hK36 _ _ ?_
   refine q_reg [] [(1, pv b2), (2, pv b4), (3, pv b7), (5, iv (i2 + 1))] (TT ∧ (InR .i64 (i2 + 1)) ∧ TT ∧ True) hA H ⟨tv, ⟨by omega, by omega⟩, tv, tv⟩ fun a w44 hA H hG => ?_
   refine ⟨(i2 + 1, v40, l2 ++ [i2]), ⟨env_sub _ hA, ⟨_, H⟩, ?_⟩, ?_⟩
   · (try dsimp only); exact ⟨by omega, by omega, by (try simp only [List.length_append, List.length_cons, List.length_nil]); omega, by rw [hi2, upto_succ h2]⟩
   (try dsimp only); omega
 have hhb35 := of_decide_eq_false hb35
 refine go_exit 2 ?_
 refine hK27 _ _ ?_
 refine go_seq fun K45 hK45 => ?_
 refine region_list ?_
 refine q_list 0 1 [(31, .agg #[vr, vr2])] [(2, pv b4), (31, .agg #[vr, vr2])] (((Try.prog.info? 29).isSome = true ∧ RowOk (On w34) b7 (0) (Try.prog.cellsOf 29) #[vr, vr2]) ∧ True) hA H ⟨⟨by kernel_rfl, by exact box_row H 2 rfl 0 2⟩, tv⟩ fun a w46 hA H hG => ?_
 refine list_at 1 ?_; refine q_store 1 29 (.tmp 2) (.tmp 31) 3 b4 (0) 29 [(.slice none 0 0), (.slice none 0 0)] [vr, vr2] [vr, vr2] (.agg #[vr, vr2]) [(2, pv b4)] hA H rfl rfl (Nat.le_of_ble_eq_true (by kernel_rfl)) rfl (fun v hv => by simp only [List.mem_cons, List.not_mem_nil, or_false] at hv; rcases hv with rfl | rfl; exact (rd_one (H.out 1 rfl)); exact (rd_one (H.out 0 rfl))) fun a w47 H hA hG => ?_
 replace H : Fr _ _ _ [.row 3 vr2 l2, .row 3 vr l, .box b7 29 [vr, vr2], .box b4 29 [vr, vr2], .box b2 24 [.int .i64 n, ve]] := H
 refine list_end ?_
 refine hK45 _ _ ?_
 refine go_ret_ ?_
 refine ret_cell 2 29 3 b4 29 [vr, vr2] #[vr, vr2] hA H rfl ?_ (ht := ⟨_, Try.underlying29⟩)
 rw [upto_eq hhb17 h0a] at hi; rw [upto_eq (by omega) h2a] at hi2; subst hi hi2
 exact ⟨_, rfl, by exact rd_two (H.give 1 rfl) (H.give 0 rfl), H.below⟩
end Go.Proofs.Ytahonnlgkmimlaa
namespace Go.Proofs.Ytahonnlgkmimlaa
open Go.RowKit
theorem bspan_any (n : Int) (ve : Value) (E : List (Int × Int)) (vl : Value) (L : List Int) (o : Orig) (hn : -9223372036854775808 ≤ n ∧ n ≤ 9223372036854775807) (hE : Rd (· < o.w.heap.size) o.w ve E) (hL : Rd (· < o.w.heap.size) o.w vl L) (hx : risesP L (E.length : Int)) (hs : (E.length : Int) ≤ 100000) :
 Calls Try.prog 83 [.agg #[.int .i64 n, ve], vl].toArray o.w (Giv o (fun S v w' => Rd S w' v ((Lib.compact (sortL (endsL E L)), L)))) := by
 have hl9 := rises_len hx (by omega)
 refine enter Try.f83 43 Try.func83 fun a hA => ?_
 replace hA := env_sub [(0, .agg #[.int .i64 n, ve]), (1, vl)] hA
 have H := Fr.start o
 refine go_seq fun K1 hK1 => ?_
 refine region_list ?_
 refine list_at 0 ?_; refine q_box 0 2 24 (.tmp 0) (.agg #[.int .i64 n, ve]) [.int .i64 n, ve] [(1, vl)] hA H fun b2 a w3 H hA hG hge_b2 => ?_
 clear hge_b2
 refine list_at 1 ?_; refine q_alloc 1 4 29 [(.slice none 0 0), (.slice none 0 0)] [(1, vl), (2, pv b2)] hA H fun b4 a w5 H hA hG hge_b4 => ?_
 clear hge_b4
 refine list_end ?_
 refine hK1 _ _ ?_
 refine go_seq fun K6 hK6 => ?_
 refine region_list ?_
 refine q_list 0 1 [] [(1, vl), (2, pv b2), (4, pv b4), (8, vl)] (TT ∧ True) hA H ⟨tv, tv⟩ fun a w7 hA H hG => ?_
 refine list_at 1 ?_; refine q_any 1 9 105 #[.tmp 8] #[27] [vl] _ [(1, vl), (2, pv b2), (4, pv b4)] hA (clone_row H (H.arg hL) (by (try simp only [List.length_cons]); omega)) fun v8 a w9 hR10 hA => ?_
 obtain ⟨H, hG⟩ := hR10
 refine q_list 2 1 [(10, .agg #[(.slice none 0 0), v8])] [(1, vl), (2, pv b2), (4, pv b4), (10, .agg #[(.slice none 0 0), v8])] ((∀ w, (Instr.build 29 #[(1, v8)]).run Try.prog w = .ok (.agg #[(.slice none 0 0), v8]) w) ∧ True) hA H ⟨fun w => by obtain ⟨_, _, _, e0⟩ := rd_form (H.out 0 rfl); rw [e0]; kernel_rfl, tv⟩ fun a w12 hA H hG => ?_
 refine list_at 3 ?_; refine q_alloc 3 5 29 [(.slice none 0 0), (.slice none 0 0)] [(1, vl), (2, pv b2), (4, pv b4), (10, .agg #[(.slice none 0 0), v8])] hA H fun b13 a w14 H hA hG hge_b13 => ?_
 clear hge_b13
 refine list_at 4 ?_; refine q_store 4 29 (.tmp 5) (.tmp 10) 0 b13 (0) 29 [(.slice none 0 0), (.slice none 0 0)] [(.slice none 0 0), v8] [(.slice none 0 0), v8] (.agg #[(.slice none 0 0), v8]) [(1, vl), (2, pv b2), (4, pv b4), (5, pv b13)] hA H rfl rfl (Nat.le_of_ble_eq_true (by kernel_rfl)) rfl (fun v hv => by simp only [List.mem_cons, List.not_mem_nil, or_false] at hv; rcases hv with rfl | rfl; exact rfl; exact (rd_one (H.out 1 rfl))) fun a w15 H hA hG => ?_
 replace H : Fr _ _ _ [.box b13 29 [(.slice none 0 0), v8], .row 3 v8 L, .box b4 29 [(.slice none 0 0), (.slice none 0 0)], .box b2 24 [.int .i64 n, ve]] := H
 refine list_end ?_
 refine hK6 _ _ ?_
 refine go_seq fun K16 hK16 => ?_
 refine go_seq fun K17 hK17 => ?_
 replace H := H.newRow (α := Int) 3
 replace H : Fr _ _ _ [.row 3 (.slice none 0 0) ([] : List Int), .box b13 29 [(.slice none 0 0), v8], .row 3 v8 L, .box b4 29 [(.slice none 0 0), (.slice none 0 0)], .box b2 24 [.int .i64 n, ve]] := H
 refine q_reg [(12, iv (L.length : Int))] [(2, pv b2), (4, pv b4), (5, pv b13), (11, vl), (12, iv (L.length : Int)), (13, iv 0)] (TT ∧ (LenOk vl (L.length : Int)) ∧ TT ∧ True) hA H ⟨tv, by exact len_ok (H.arg hL), tv, tv⟩ fun a w18 hA H hG => ?_
 refine hK17 _ _ ?_
 refine go_block 0 ?_
 refine go_loop_ (Int × Value × List Int) (fun x_ a W => (fun (i : Int) (vr : Value) (l : List Int) => EnvOk 43 a (keepEnv [(2, pv b2), (4, pv b4), (5, pv b13), (11, vl), (12, iv (L.length : Int)), (13, iv i)]) ∧ (∃ S, Fr o W S [.row 3 vr l, .box b13 29 [vr, v8], .row 3 v8 L, .box b4 29 [(.slice none 0 0), (.slice none 0 0)], .box b2 24 [.int .i64 n, ve]]) ∧ 0 ≤ i ∧ i ≤ (L.length : Int) ∧ (l.length : Int) ≤ 2 * i ∧ l ++ endsL E (L.drop i.toNat) = endsL E L) x_.1 x_.2.1 x_.2.2) (fun x_ => (fun (i : Int) (vr : Value) (l : List Int) => ((L.length : Int) - i).toNat) x_.1 x_.2.1 x_.2.2) (0, .slice none 0 0, []) ?_ (fun x_ a w20 hI => ?_)
 · (try dsimp only); exact ⟨env_sub _ hA, ⟨_, H⟩, by omega, by omega, by simp, by simp⟩
 obtain ⟨i, vr, l⟩ := x_
 obtain ⟨hA, ⟨S, H⟩, h0, h0b, h1, hi⟩ := hI
 try dsimp only at h0 h0b h1 hi
 replace H : Fr _ _ _ [.row 3 vr l, .box b13 29 [vr, v8], .row 3 v8 L, .box b4 29 [(.slice none 0 0), (.slice none 0 0)], .box b2 24 [.int .i64 n, ve]] := H
 refine go_seq fun K21 hK21 => ?_
 refine q_reg [] [(2, pv b2), (4, pv b4), (5, pv b13), (11, vl), (12, iv (L.length : Int)), (13, iv i), (14, .bool (decide (i < (L.length : Int))))] (TT ∧ True) hA H ⟨tv, tv⟩ fun a w22 hA H hG => ?_
 refine hK21 _ _ ?_
 refine go_seq fun K23 hK23 => ?_
 refine go_cond hA (.tmp 14) (decide (i < (L.length : Int))) (fun hb24 => ?_) (fun hb24 => ?_)
 · have hhb24 := of_decide_eq_true hb24
   refine go_skip ?_
   refine hK23 _ _ ?_
   refine go_seq fun K25 hK25 => ?_
   refine go_block 1 ?_
   refine go_seq fun K26 hK26 => ?_
   have hx9 := hx i.toNat (by omega)
   refine q_reg [(16, iv (L.getD i.toNat 0))] [(2, pv b2), (4, pv b4), (5, pv b13), (7, iv (L.getD i.toNat 0)), (11, vl), (12, iv (L.length : Int)), (13, iv i)] (((Try.prog.info? 3).isSome = true ∧ IdxOk vl i) ∧ (CellOk (On w22) (hdB vl) (hdO vl + i.toNat * 1) (.int .i64 (L.getD i.toNat 0))) ∧ TT ∧ True) hA H ⟨⟨by kernel_rfl, by exact idx_ok (H.arg hL) (by omega) (by omega)⟩, by exact cell_flat (i := i) (H.arg hL) (by omega) (by omega) 0 0, tv, tv⟩ fun a w27 hA H hG => ?_
   refine hK26 _ _ ?_
   have H0 := H
   have hM0 := H0.keeps vr.ownBlock (.inr ⟨_, List.mem_of_getElem? (i := 0) rfl, rfl⟩)
   refine region_mix (But w27 vr.ownBlock) [0, 1, 2, 3, 4, 5, 6, 7, 8, 9, 10, 11, 12, 13, 14, 15] 18 ?_
   replace H := H.drawn; have hD := But.drew w27 vr.ownBlock
   generalize ({ w27 with drawn := w27.drawn + 1 } : World) = w28 at H hD ⊢
   refine m_take (n := 4) [0, 1, 2, 3, 4, 5, 6, 7, 8, 9, 10, 11, 12, 13] #[true, true, true, true, true, true, true, true, true, true, true, true, true, true, false, false, false, false] [(18, vr), (20, ve), (24, iv ((E.getD (L.getD i.toNat 0).toNat (0, 0)).1)), (26, ve), (30, iv ((E.getD (L.getD i.toNat 0).toNat (0, 0)).2))] [(2, pv b2), (4, pv b4), (5, pv b13), (11, vl), (12, iv (L.length : Int)), (13, iv i), (18, vr), (24, iv ((E.getD (L.getD i.toNat 0).toNat (0, 0)).1)), (30, iv ((E.getD (L.getD i.toNat 0).toNat (0, 0)).2))] ((0 < Try.prog.cellsOf 27) ∧ (CellOk (But w27 vr.ownBlock) b13 (0 + 0) (vr)) ∧ (0 < Try.prog.cellsOf 22) ∧ (CellOk (But w27 vr.ownBlock) b2 (0 + 1) (ve)) ∧ TT ∧ ((Try.prog.info? 99).isSome = true ∧ IdxOk ve (L.getD i.toNat 0)) ∧ (0 < Try.prog.cellsOf 3) ∧ (CellOk (But w27 vr.ownBlock) (hdB ve) (hdO ve + (L.getD i.toNat 0).toNat * 2 + 0) (.int .i64 ((E.getD (L.getD i.toNat 0).toNat (0, 0)).1))) ∧ (0 < Try.prog.cellsOf 22) ∧ (CellOk (But w27 vr.ownBlock) b2 (0 + 1) (ve)) ∧ TT ∧ ((Try.prog.info? 99).isSome = true ∧ IdxOk ve (L.getD i.toNat 0)) ∧ (0 < Try.prog.cellsOf 3) ∧ (CellOk (But w27 vr.ownBlock) (hdB ve) (hdO ve + (L.getD i.toNat 0).toNat * 2 + 1) (.int .i64 ((E.getD (L.getD i.toNat 0).toNat (0, 0)).2))) ∧ True) hA hD ⟨by decide +kernel, by exact box_cellC (box_atC H0 vr.ownBlock 1 rfl (H0.apart 1 0 (by decide) rfl rfl rfl)) 0, by decide +kernel, by exact box_cellC (box_atC H0 vr.ownBlock 4 rfl (H0.apart 4 0 (by decide) rfl rfl rfl)) 1, tv, ⟨by kernel_rfl, by exact idx_ok (H0.argT hE) (by omega) (by omega)⟩, by decide +kernel, by exact cell_flatC hM0 (i := (L.getD i.toNat 0)) (H0.argT hE) (by omega) (by omega) (0, 0) 0, by decide +kernel, by exact box_cellC (box_atC H0 vr.ownBlock 4 rfl (H0.apart 4 0 (by decide) rfl rfl rfl)) 1, tv, ⟨by kernel_rfl, by exact idx_ok (H0.argT hE) (by omega) (by omega)⟩, by decide +kernel, by exact cell_flatC hM0 (i := (L.getD i.toNat 0)) (H0.argT hE) (by omega) (by omega) (0, 0) 1, tv⟩ fun a hA => ?_
   refine m_one 14 ?_; refine q_lit 14 31 27 2 #[(0, .tmp 24), (1, .tmp 30)] 3 [(0, iv ((E.getD (L.getD i.toNat 0).toNat (0, 0)).1)), (1, iv ((E.getD (L.getD i.toNat 0).toNat (0, 0)).2))] [.int .i64 ((E.getD (L.getD i.toNat 0).toNat (0, 0)).1), .int .i64 ((E.getD (L.getD i.toNat 0).toNat (0, 0)).2)] [(2, pv b2), (4, pv b4), (5, pv b13), (11, vl), (12, iv (L.length : Int)), (13, iv i), (18, vr)] hA H fun b29 a w30 H hA hG hge_b29 => ?_
   replace hge_b29 := Nat.le_trans hD.1 hge_b29
   replace hD := hD.below hG
   refine ⟨fun _ => hD, ?_⟩
   refine m_one 15 ?_; refine q_push 15 32 (.tmp 18) (.tmp 31) 1 0 b29 2 2 vr l [(E.getD (L.getD i.toNat 0).toNat (0, 0)).1, (E.getD (L.getD i.toNat 0).toNat (0, 0)).2] [.int .i64 ((E.getD (L.getD i.toNat 0).toNat (0, 0)).1), .int .i64 ((E.getD (L.getD i.toNat 0).toNat (0, 0)).2)] [(2, pv b2), (4, pv b4), (5, pv b13), (11, vl), (12, iv (L.length : Int)), (13, iv i)] hA H Try.E27 rfl rfl (by exact ((RowRd.single (α := Int) rfl).append (RowRd.single (α := Int) rfl))) rfl (by simp only [List.length_cons, List.length_nil, List.length_append]; omega) (by decide) fun v31 a w32 H hA hG => ?_
   replace H : Fr _ _ _ [.row 3 v31 (l ++ [(E.getD (L.getD i.toNat 0).toNat (0, 0)).1, (E.getD (L.getD i.toNat 0).toNat (0, 0)).2]), .box b13 29 [vr, v8], .row 3 v8 L, .box b4 29 [(.slice none 0 0), (.slice none 0 0)], .box b2 24 [.int .i64 n, ve]] := H.drop 0
   replace hD := hD.grown hG (fun b hb => .inl hb.symm)
   refine ⟨fun _ => hD, ?_⟩
   refine m_one 16 ?_; refine q_one 16 [] [(2, pv b2), (4, pv b4), (5, pv b13), (11, vl), (12, iv (L.length : Int)), (13, iv i), (32, v31), (33, .pointer (some ⟨b13, 0 + 0, none⟩))] ((0 < Try.prog.cellsOf 27) ∧ True) hA H ⟨by decide +kernel, tv⟩ fun a w33 H hA hG => ?_
   refine ⟨fun h => absurd h (by decide), ?_⟩
   refine m_one 17 ?_; refine q_store 17 27 (.tmp 33) (.tmp 32) 1 b13 (0 + 0) 29 [vr, v8] [v31] [v31, v8] v31 [(2, pv b2), (4, pv b4), (5, pv b13), (11, vl), (12, iv (L.length : Int)), (13, iv i)] hA H rfl (one_cells (rd_one (H.out 0 rfl))) (Nat.le_of_ble_eq_true (by kernel_rfl)) rfl (fun v hv => by simp only [List.mem_cons, List.not_mem_nil, or_false] at hv; rcases hv with rfl; exact (rd_one (H.out 0 rfl))) fun a w34 H hA hG => ?_
   replace H : Fr _ _ _ [.row 3 v31 (l ++ [(E.getD (L.getD i.toNat 0).toNat (0, 0)).1, (E.getD (L.getD i.toNat 0).toNat (0, 0)).2]), .box b13 29 [v31, v8], .row 3 v8 L, .box b4 29 [(.slice none 0 0), (.slice none 0 0)], .box b2 24 [.int .i64 n, ve]] := H
   refine ⟨fun h => absurd h (by decide), ?_⟩
   refine m_end ?_
   refine hK25 _ _ ?_
   refine q_reg [] [(2, pv b2), (4, pv b4), (5, pv b13), (11, vl), (12, iv (L.length : Int)), (13, iv (i + 1))] ((InR .i64 (i + 1)) ∧ TT ∧ True) hA H ⟨⟨by omega, by omega⟩, tv, tv⟩ fun a w35 hA H hG => ?_
   refine ⟨(i + 1, v31, l ++ [(E.getD (L.getD i.toNat 0).toNat (0, 0)).1, (E.getD (L.getD i.toNat 0).toNat (0, 0)).2]), ⟨env_sub _ hA, ⟨_, H⟩, ?_⟩, ?_⟩
   · (try dsimp only); exact ⟨by omega, by omega, by (try simp only [List.length_append, List.length_cons, List.length_nil]); omega, by rw [endsL_round h0 (by omega)] at hi; (try simp only [List.append_assoc] at hi ⊢); exact hi⟩
   (try dsimp only); omega
 have hhb24 := of_decide_eq_false hb24
 refine go_exit 0 ?_
 refine hK16 _ _ ?_
 refine go_seq fun K36 hK36 => ?_
 rw [endsL_end (by omega), List.append_nil] at hi
 have hl1 : l.length ≤ 1000000 := by omega
 refine region_list ?_
 refine q_list 0 2 [(36, vr)] [(4, pv b4), (5, pv b13), (36, vr)] ((0 < Try.prog.cellsOf 27) ∧ (CellOk (On w22) b13 (0 + 0) (vr)) ∧ True) hA H ⟨by decide +kernel, by exact box_cell H 1 rfl 0, tv⟩ fun a w37 hA H hG => ?_
 refine list_at 2 ?_; refine q_any 2 37 74 #[.tmp 36] #[27] [vr] _ [(4, pv b4), (5, pv b13)] hA (by exact sort_row H 0 rfl (by first | omega | (simp only [List.length_mergeSort]; omega) | (simp only [List.length_cons]; omega))) fun v38 a w39 hR40 hA => ?_
 obtain ⟨H, hG⟩ := hR40
 replace H : Fr _ _ _ [.row 3 vr (sortL l), .box b13 29 [vr, v8], .row 3 v8 L, .box b4 29 [(.slice none 0 0), (.slice none 0 0)], .box b2 24 [.int .i64 n, ve]] := H
 refine list_end ?_
 refine hK36 _ _ ?_
 refine go_seq fun K41 hK41 => ?_
 refine region_list ?_
 refine q_list 0 2 [(39, vr)] [(4, pv b4), (5, pv b13), (39, vr)] ((0 < Try.prog.cellsOf 27) ∧ (CellOk (On w39) b13 (0 + 0) (vr)) ∧ True) hA H ⟨by decide +kernel, by exact box_cell H 1 rfl 0, tv⟩ fun a w42 hA H hG => ?_
 refine list_at 2 ?_; refine q_any 2 40 75 #[.tmp 39] #[27] [vr] _ [(4, pv b4), (5, pv b13)] hA (by exact compact_row H 0 rfl (by first | omega | (simp only [List.length_mergeSort]; omega) | (simp only [List.length_cons]; omega))) fun v43 a w44 hR45 hA => ?_
 obtain ⟨H, hG⟩ := hR45
 replace H : Fr _ _ _ [.row 3 v43 (Lib.compact (sortL l)), .box b13 29 [vr, v8], .row 3 v8 L, .box b4 29 [(.slice none 0 0), (.slice none 0 0)], .box b2 24 [.int .i64 n, ve]] := H
 refine q_list 3 1 [] [(4, pv b4), (5, pv b13), (40, v43), (41, .pointer (some ⟨b13, 0 + 0, none⟩))] ((0 < Try.prog.cellsOf 27) ∧ True) hA H ⟨by decide +kernel, tv⟩ fun a w46 hA H hG => ?_
 refine list_at 4 ?_; refine q_store 4 27 (.tmp 41) (.tmp 40) 1 b13 (0 + 0) 29 [vr, v8] [v43] [v43, v8] v43 [(4, pv b4), (5, pv b13)] hA H rfl (one_cells (rd_one (H.out 0 rfl))) (Nat.le_of_ble_eq_true (by kernel_rfl)) rfl (fun v hv => by simp only [List.mem_cons, List.not_mem_nil, or_false] at hv; rcases hv with rfl; exact (rd_one (H.out 0 rfl))) fun a w47 H hA hG => ?_
 replace H : Fr _ _ _ [.row 3 v43 (Lib.compact (sortL l)), .box b13 29 [v43, v8], .row 3 v8 L, .box b4 29 [(.slice none 0 0), (.slice none 0 0)], .box b2 24 [.int .i64 n, ve]] := H
 refine list_end ?_
 refine hK41 _ _ ?_
 refine go_seq fun K48 hK48 => ?_
 refine region_list ?_
 refine q_list 0 1 [(42, .agg #[v43, v8])] [(4, pv b4), (42, .agg #[v43, v8])] (((Try.prog.info? 29).isSome = true ∧ RowOk (On w47) b13 (0) (Try.prog.cellsOf 29) #[v43, v8]) ∧ True) hA H ⟨⟨by kernel_rfl, by exact box_row H 1 rfl 0 2⟩, tv⟩ fun a w49 hA H hG => ?_
 refine list_at 1 ?_; refine q_store 1 29 (.tmp 4) (.tmp 42) 3 b4 (0) 29 [(.slice none 0 0), (.slice none 0 0)] [v43, v8] [v43, v8] (.agg #[v43, v8]) [(4, pv b4)] hA H rfl rfl (Nat.le_of_ble_eq_true (by kernel_rfl)) rfl (fun v hv => by simp only [List.mem_cons, List.not_mem_nil, or_false] at hv; rcases hv with rfl | rfl; exact (rd_one (H.out 0 rfl)); exact (rd_one (H.out 2 rfl))) fun a w50 H hA hG => ?_
 replace H : Fr _ _ _ [.row 3 v43 (Lib.compact (sortL l)), .box b13 29 [v43, v8], .row 3 v8 L, .box b4 29 [v43, v8], .box b2 24 [.int .i64 n, ve]] := H
 refine list_end ?_
 refine hK48 _ _ ?_
 refine go_ret_ ?_
 refine ret_cell 4 29 3 b4 29 [v43, v8] #[v43, v8] hA H rfl ?_ (ht := ⟨_, Try.underlying29⟩)
 have hV2 := (H.give 0 rfl); have hE2 := (H.give 2 rfl); rw [hi] at hV2
 exact ⟨_, rfl, rd_two hV2 hE2, H.below⟩
theorem blocks_any (n : Int) (ve : Value) (E : List (Int × Int)) (vv vl : Value) (V L : List Int) (o : Orig) (hn : -9223372036854775808 ≤ n ∧ n ≤ 9223372036854775807) (hE : Rd (· < o.w.heap.size) o.w ve E) (hV : Rd (· < o.w.heap.size) o.w vv V) (hL : Rd (· < o.w.heap.size) o.w vl L) :
 Calls Try.prog 47 [.agg #[.int .i64 n, ve], .agg #[vv, vl]].toArray o.w (Giv o (fun S v w' => ∃ p, v = .tuple #[p, .int .i64 (partE n E V L)] ∧ Rd S w' p (blocksE n E V L))) := by
 refine enter Try.f47 41 Try.func47 fun a hA => ?_
 replace hA := env_sub [(0, .agg #[.int .i64 n, ve]), (1, .agg #[vv, vl])] hA
 have H := Fr.start o
 refine go_seq fun K1 hK1 => ?_
 refine region_list ?_
 refine list_at 0 ?_; refine q_box 0 2 24 (.tmp 0) (.agg #[.int .i64 n, ve]) [.int .i64 n, ve] [(1, .agg #[vv, vl])] hA H fun b2 a w3 H hA hG hge_b2 => ?_
 clear hge_b2
 refine list_at 1 ?_; refine q_box 1 3 29 (.tmp 1) (.agg #[vv, vl]) [vv, vl] [(2, pv b2)] hA H fun b4 a w5 H hA hG hge_b4 => ?_
 clear hge_b4
 refine q_list 2 2 [] [(2, pv b2), (3, pv b4)] (TT ∧ TT ∧ True) hA H ⟨tv, tv, tv⟩ fun a w6 hA H hG => ?_
 refine list_end ?_
 refine hK1 _ _ ?_
 refine go_seq fun K7 hK7 => ?_
 refine go_seq fun K8 hK8 => ?_
 refine q_reg [(11, .agg #[.int .i64 n, ve]), (12, .agg #[vv, vl]), (13, iv (partE n E V L))] [(2, pv b2), (3, pv b4), (6, iv (partE n E V L))] (((Try.prog.info? 24).isSome = true ∧ RowOk (On w6) b2 (0) (Try.prog.cellsOf 24) #[.int .i64 n, ve]) ∧ ((Try.prog.info? 29).isSome = true ∧ RowOk (On w6) b4 (0) (Try.prog.cellsOf 29) #[vv, vl]) ∧ (Callable Try.prog 31 ∧ CallOk Try.prog (On w6) 31 [.agg #[.int .i64 n, ve], .agg #[vv, vl]].toArray (.int .i64 (partE n E V L))) ∧ TT ∧ True) hA H ⟨⟨by kernel_rfl, by exact box_row H 1 rfl 0 2⟩, ⟨by kernel_rfl, by exact box_row H 0 rfl 0 2⟩, ⟨callable_of, callOk_of fun w hw => by exact rightPart_any n ve E vv vl V L w (by omega) (((H.on hw).arg hE)) (((H.on hw).arg hV)) (((H.on hw).arg hL))⟩, tv, tv⟩ fun a w9 hA H hG => ?_
 refine hK8 _ _ ?_
 refine go_seq fun K10 hK10 => ?_
 refine q_reg [] [(2, pv b2), (3, pv b4), (6, iv (partE n E V L)), (15, .bool (!decide (partE n E V L = 0)))] (TT ∧ TT ∧ True) hA H ⟨tv, tv, tv⟩ fun a w11 hA H hG => ?_
 refine hK10 _ _ ?_
 refine go_cond hA (.tmp 15) (!decide (partE n E V L = 0)) (fun hb12 => ?_) (fun hb12 => ?_)
 · have hhb12 := of_decide_eq_false (nT hb12)
   refine go_seq fun K13 hK13 => ?_
   refine q_reg [] [(4, (.slice none 0 0)), (5, iv (partE n E V L))] (TT ∧ TT ∧ TT ∧ True) hA H ⟨tv, tv, tv, tv⟩ fun a w14 hA H hG => ?_
   refine hK13 _ _ ?_
   refine go_ret_ ?_
   refine ret_two 4 5 (.slice none 0 0) (.int .i64 (partE n E V L)) hA ?_
   exact ⟨_, rfl, ⟨_, rfl, by unfold blocksE; rw [if_pos hhb12]; exact rd_nil⟩, H.below⟩
 have hhb12 := of_decide_eq_true (nF hb12)
 refine go_skip ?_
 refine hK7 _ _ ?_
 refine go_seq fun K15 hK15 => ?_
 have hpt : partE n E V L = 0 := by omega
 have hr9 := rightE_0 (part_iff.1 hpt).1
 refine region_list ?_
 refine q_list 0 2 [(17, .agg #[.int .i64 n, ve]), (18, .agg #[vv, vl])] [(2, pv b2), (17, .agg #[.int .i64 n, ve]), (18, .agg #[vv, vl])] (((Try.prog.info? 24).isSome = true ∧ RowOk (On w11) b2 (0) (Try.prog.cellsOf 24) #[.int .i64 n, ve]) ∧ ((Try.prog.info? 29).isSome = true ∧ RowOk (On w11) b4 (0) (Try.prog.cellsOf 29) #[vv, vl]) ∧ True) hA H ⟨⟨by kernel_rfl, by exact box_row H 1 rfl 0 2⟩, ⟨by kernel_rfl, by exact box_row H 0 rfl 0 2⟩, tv⟩ fun a w16 hA H hG => ?_
 obtain ⟨s', hroots, hbd, hrest, hmet⟩ := find_ex hpt
 refine list_at 2 ?_; refine q_any 2 19 80 #[.tmp 17, .tmp 18] #[24, 29] [.agg #[.int .i64 n, ve], .agg #[vv, vl]] (fun u9 w9 => ∃ fb mb lb pb vd DL S ev ins, u9 = .pointer (some ⟨fb, 0, none⟩) ∧ Fr o w9 S (finR n ve vd DL fb mb lb pb s' ev ins [.box b4 29 [vv, vl], .box b2 24 [.int .i64 n, ve]]) ∧ insOf ins = s'.ins) [(2, pv b2)] hA ((find_any n ve E vv vl V L o _ s' [.box b4 29 [vv, vl], .box b2 24 [.int .i64 n, ve]] _ hpt hE hV hL H hroots hbd).mono fun e9 w9 ⟨fb, mb, lb, pb, vd, DL, S, ev, ins, h9, h10⟩ => ⟨_, h9, fb, mb, lb, pb, vd, DL, S, ev, ins, rfl, h10⟩) fun v17 a w18 hR19 hA => ?_
 obtain ⟨fb, mb, lb, pb, vd, DL, S, ev, ins, rfl, H, hins⟩ := hR19
 replace H : Fr _ _ _ [.box fb 106 [.int .i64 n, ve, vd, (.slice (some ⟨mb, 0, none⟩) n.toNat n.toNat), (.slice (some ⟨lb, 0, none⟩) n.toNat n.toNat), .int .i64 s'.cnt, ev, (.map (some pb))], .box mb 3 (arrV n fun j => .int .i64 (s'.met j)), .box lb 3 (arrV n fun j => .int .i64 (s'.low j)), .row 3 ev s'.stk, mapR Try.prog 3 pb ins, .ro vd DL, .box b4 29 [vv, vl], .box b2 24 [.int .i64 n, ve]] := H
 refine q_list 3 4 [(22, (.map (some pb)))] [(2, pv b2), (7, (.map (some pb)))] (TT ∧ (0 < Try.prog.cellsOf 104) ∧ (CellOk (On w18) fb (0 + 7) ((.map (some pb)))) ∧ TT ∧ True) hA H ⟨tv, by decide +kernel, by exact box_cell H 0 rfl 7, tv, tv⟩ fun a w20 hA H hG => ?_
 refine list_end ?_
 refine hK15 _ _ ?_
 refine go_seq fun K21 hK21 => ?_
 have hil : ins.length ≤ 1000000000 := by have := hbd.ins; rw [← hins, List.length_map] at this; exact this
 refine q_reg [] [(2, pv b2), (7, (.map (some pb))), (8, (.slice none 0 0))] (TT ∧ True) hA H ⟨tv, tv⟩ fun a w22 hA H hG => ?_
 refine hK21 _ _ ?_
 refine go_seq fun K23 hK23 => ?_
 refine go_seq fun K24 hK24 => ?_
 refine region_list ?_
 refine q_list 0 1 [] [(2, pv b2), (7, (.map (some pb))), (8, (.slice none 0 0)), (23, (.map (some pb)))] (TT ∧ True) hA H ⟨tv, tv⟩ fun a w25 hA H hG => ?_
 refine list_at 1 ?_; refine q_any 1 24 82 #[.tmp 23] #[104] [(.map (some pb))] (fun u9 w9 => ∃ kb, u9 = .func (.func 104) #[] #[.pointer (some ⟨kb, 0, none⟩)] ∧ Fr o w9 S (.box kb 104 [.map (some pb)] :: [.box fb 106 [.int .i64 n, ve, vd, (.slice (some ⟨mb, 0, none⟩) n.toNat n.toNat), (.slice (some ⟨lb, 0, none⟩) n.toNat n.toNat), .int .i64 s'.cnt, ev, (.map (some pb))], .box mb 3 (arrV n fun j => .int .i64 (s'.met j)), .box lb 3 (arrV n fun j => .int .i64 (s'.low j)), .row 3 ev s'.stk, mapR Try.prog 3 pb ins, .ro vd DL, .box b4 29 [vv, vl], .box b2 24 [.int .i64 n, ve]]) ∧ Below w25.heap.size w25 w9) [(2, pv b2), (7, (.map (some pb))), (8, (.slice none 0 0))] hA ((keys_box _).mono fun e9 w9 h9 => ⟨_, h9.1, _, rfl, h9.2 ▸ H.newBox _ _, h9.2 ▸ below_new _ _⟩) fun v26 a w27 hR28 hA => ?_
 obtain ⟨kb29, rfl, H, hG⟩ := hR28
 replace H : Fr _ _ _ [.box kb29 104 [.map (some pb)], .box fb 106 [.int .i64 n, ve, vd, (.slice (some ⟨mb, 0, none⟩) n.toNat n.toNat), (.slice (some ⟨lb, 0, none⟩) n.toNat n.toNat), .int .i64 s'.cnt, ev, (.map (some pb))], .box mb 3 (arrV n fun j => .int .i64 (s'.met j)), .box lb 3 (arrV n fun j => .int .i64 (s'.low j)), .row 3 ev s'.stk, mapR Try.prog 3 pb ins, .ro vd DL, .box b4 29 [vv, vl], .box b2 24 [.int .i64 n, ve]] := H
 refine list_at 2 ?_; refine q_any 2 25 81 #[.tmp 24] #[111] [.func (.func 104) #[] #[.pointer (some ⟨kb29, 0, none⟩)]] _ [(2, pv b2), (7, (.map (some pb))), (8, (.slice none 0 0))] hA (sorted_row H 5 0 rfl rfl hil) fun v30 a w31 hR32 hA => ?_
 obtain ⟨⟨K, hK, hKm, H⟩, hG⟩ := hR32
 replace H : Fr _ _ _ [.row 3 v30 K, .box kb29 104 [.map (some pb)], .box fb 106 [.int .i64 n, ve, vd, (.slice (some ⟨mb, 0, none⟩) n.toNat n.toNat), (.slice (some ⟨lb, 0, none⟩) n.toNat n.toNat), .int .i64 s'.cnt, ev, (.map (some pb))], .box mb 3 (arrV n fun j => .int .i64 (s'.met j)), .box lb 3 (arrV n fun j => .int .i64 (s'.low j)), .row 3 ev s'.stk, mapR Try.prog 3 pb ins, .ro vd DL, .box b4 29 [vv, vl], .box b2 24 [.int .i64 n, ve]] := H
 refine q_list 3 2 [(26, iv (K.length : Int))] [(2, pv b2), (7, (.map (some pb))), (8, (.slice none 0 0)), (25, v30), (26, iv (K.length : Int)), (27, iv 0)] ((LenOk v30 (K.length : Int)) ∧ TT ∧ True) hA H ⟨by exact len_ok (H.out 0 rfl), tv, tv⟩ fun a w33 hA H hG => ?_
 refine list_end ?_
 refine hK24 _ _ ?_
 refine go_block 0 ?_
 replace H := H.newRow (α := List Int × List Int) 29
 refine go_loop_ (Int × Value × List (List Int × List Int)) (fun x_ a W => (fun (i : Int) (vr : Value) (l : List (List Int × List Int)) => EnvOk 41 a (keepEnv [(2, pv b2), (7, (.map (some pb))), (8, vr), (25, v30), (26, iv (K.length : Int)), (27, iv i)]) ∧ (∃ S, Fr o W S [.row 29 vr l, .row 3 v30 K, .box kb29 104 [.map (some pb)], .box fb 106 [.int .i64 n, ve, vd, (.slice (some ⟨mb, 0, none⟩) n.toNat n.toNat), (.slice (some ⟨lb, 0, none⟩) n.toNat n.toNat), .int .i64 s'.cnt, ev, (.map (some pb))], .box mb 3 (arrV n fun j => .int .i64 (s'.met j)), .box lb 3 (arrV n fun j => .int .i64 (s'.low j)), .row 3 ev s'.stk, mapR Try.prog 3 pb ins, .ro vd DL, .box b4 29 [vv, vl], .box b2 24 [.int .i64 n, ve]]) ∧ 0 ≤ i ∧ i ≤ (K.length : Int) ∧ (l.length : Int) ≤ i ∧ l = (K.take i.toNat).map (fun k => (Lib.compact (sortL (endsL E (valAt ins k))), valAt ins k))) x_.1 x_.2.1 x_.2.2) (fun x_ => (fun (i : Int) (vr : Value) (l : List (List Int × List Int)) => ((K.length : Int) - i).toNat) x_.1 x_.2.1 x_.2.2) (0, .slice none 0 0, []) ?_ (fun x_ a w35 hI => ?_)
 · (try dsimp only); exact ⟨env_sub _ hA, ⟨_, H⟩, by omega, by omega, by simp, by simp⟩
 obtain ⟨i, vr, l⟩ := x_
 obtain ⟨hA, ⟨S, H⟩, h0, h0b, h1, hi⟩ := hI
 try dsimp only at h0 h0b h1 hi
 replace H : Fr _ _ _ [.row 29 vr l, .row 3 v30 K, .box kb29 104 [.map (some pb)], .box fb 106 [.int .i64 n, ve, vd, (.slice (some ⟨mb, 0, none⟩) n.toNat n.toNat), (.slice (some ⟨lb, 0, none⟩) n.toNat n.toNat), .int .i64 s'.cnt, ev, (.map (some pb))], .box mb 3 (arrV n fun j => .int .i64 (s'.met j)), .box lb 3 (arrV n fun j => .int .i64 (s'.low j)), .row 3 ev s'.stk, mapR Try.prog 3 pb ins, .ro vd DL, .box b4 29 [vv, vl], .box b2 24 [.int .i64 n, ve]] := H
 refine go_seq fun K36 hK36 => ?_
 have hKl := keys_len hK hKm
 refine q_reg [] [(2, pv b2), (7, (.map (some pb))), (8, vr), (25, v30), (26, iv (K.length : Int)), (27, iv i), (28, .bool (decide (i < (K.length : Int))))] (TT ∧ True) hA H ⟨tv, tv⟩ fun a w37 hA H hG => ?_
 refine hK36 _ _ ?_
 refine go_seq fun K38 hK38 => ?_
 refine go_cond hA (.tmp 28) (decide (i < (K.length : Int))) (fun hb39 => ?_) (fun hb39 => ?_)
 · have hhb39 := of_decide_eq_true hb39
   refine go_skip ?_
   refine hK38 _ _ ?_
   refine go_seq fun K40 hK40 => ?_
   refine go_block 1 ?_
   refine go_seq fun K41 hK41 => ?_
   refine q_reg [(30, iv (K.getD i.toNat 0))] [(2, pv b2), (7, (.map (some pb))), (8, vr), (10, iv (K.getD i.toNat 0)), (25, v30), (26, iv (K.length : Int)), (27, iv i)] (((Try.prog.info? 3).isSome = true ∧ IdxOk v30 i) ∧ (CellOk (On w37) (hdB v30) (hdO v30 + i.toNat * 1) (.int .i64 (K.getD i.toNat 0))) ∧ TT ∧ True) hA H ⟨⟨by kernel_rfl, by exact idx_ok (H.out 1 rfl) (by omega) (by omega)⟩, by exact cell_flat (i := i) (H.out 1 rfl) (by omega) (by omega) 0 0, tv, tv⟩ fun a w42 hA H hG => ?_
   refine hK41 _ _ ?_
   obtain ⟨lv, hlv⟩ := (hKm (K.getD i.toNat 0)).1 (mem_getD.2 ⟨i.toNat, by omega, rfl⟩)
   obtain ⟨⟨u, rv⟩, hla⟩ := lastAt_some hlv
   have hmem := lastAt_mem hla
   have hinm : ((K.getD i.toNat 0), rv) ∈ s'.ins := by rw [← hins]; exact List.mem_map.2 ⟨_, hmem, rfl⟩
   have hval : valAt ins (K.getD i.toNat 0) = rv := by unfold valAt; rw [hla]
   obtain ⟨hc1, hc2, hc3⟩ := ins_class hpt hrest hmet hinm
   have hxs : risesP rv (E.length : Int) := by have h9 := (part_iff.1 hpt).2.2.1; rw [show rv = _ from hc2]; exact rises_sub ((rises_iff.1 h9).1.sublist List.filter_sublist) h9 fun x hx => (List.mem_filter.1 hx).1
   have hkw := (rises_iff.1 (part_iff.1 hpt).2.2.1).2 _ hc1
   obtain ⟨hlk, hlr⟩ := map_look (t := 104) H 7 rfl hla (show wfI _ from ⟨by omega, by omega⟩) Try.underlying104 Try.underlying3 (z := .slice none 0 0) (fun w => by kernel_rfl)
   replace H := (H.ro hlr).sink 1 11
   replace H : Fr _ _ _ [.row 29 vr l, .row 3 v30 K, .box kb29 104 [.map (some pb)], .box fb 106 [.int .i64 n, ve, vd, (.slice (some ⟨mb, 0, none⟩) n.toNat n.toNat), (.slice (some ⟨lb, 0, none⟩) n.toNat n.toNat), .int .i64 s'.cnt, ev, (.map (some pb))], .box mb 3 (arrV n fun j => .int .i64 (s'.met j)), .box lb 3 (arrV n fun j => .int .i64 (s'.low j)), .row 3 ev s'.stk, mapR Try.prog 3 pb ins, .ro vd DL, .box b4 29 [vv, vl], .box b2 24 [.int .i64 n, ve], .ro u rv] := H
   refine region_list ?_
   refine q_list 0 5 [(32, .agg #[.int .i64 n, ve]), (35, u)] [(2, pv b2), (7, (.map (some pb))), (25, v30), (26, iv (K.length : Int)), (27, iv i), (31, vr), (32, .agg #[.int .i64 n, ve]), (35, u)] (TT ∧ ((Try.prog.info? 24).isSome = true ∧ RowOk (On w42) b2 (0) (Try.prog.cellsOf 24) #[.int .i64 n, ve]) ∧ TT ∧ TT ∧ (∀ w', On w42 w' → (Instr.lookup 104 (.map (some pb)) (.int .i64 (K.getD i.toNat 0)) false).run Try.prog w' = .ok u w') ∧ True) hA H ⟨tv, ⟨by kernel_rfl, by exact box_row H 10 rfl 0 2⟩, tv, tv, by exact hlk, tv⟩ fun a w43 hA H hG => ?_
   refine list_at 5 ?_; refine q_call 5 36 83 #[.tmp 32, .tmp 35] #[24, 27] [.agg #[.int .i64 n, ve], u] (fun S v_ w' => Rd S w' v_ ((Lib.compact (sortL (endsL E rv)), rv))) [(2, pv b2), (7, (.map (some pb))), (25, v30), (26, iv (K.length : Int)), (27, iv i), (31, vr)] hA H (by exact bspan_any n ve E u rv H.at (by omega) ((H.arg hE)) ((H.get 11 rfl)) hxs (by omega)) fun v44 a w45 S hR46 H hA hG => ?_
   obtain ⟨v44a, v44b, rfl, hR46a, hR46b⟩ := two_rd hR46
   replace H := H.ro hR46a; replace H := H.ro hR46b
   replace H : Fr _ _ _ [.ro v44b rv, .ro v44a (Lib.compact (sortL (endsL E rv))), .row 29 vr l, .row 3 v30 K, .box kb29 104 [.map (some pb)], .box fb 106 [.int .i64 n, ve, vd, (.slice (some ⟨mb, 0, none⟩) n.toNat n.toNat), (.slice (some ⟨lb, 0, none⟩) n.toNat n.toNat), .int .i64 s'.cnt, ev, (.map (some pb))], .box mb 3 (arrV n fun j => .int .i64 (s'.met j)), .box lb 3 (arrV n fun j => .int .i64 (s'.low j)), .row 3 ev s'.stk, mapR Try.prog 3 pb ins, .ro vd DL, .box b4 29 [vv, vl], .box b2 24 [.int .i64 n, ve], .ro u rv] := H
   refine list_at 6 ?_; refine q_lit 6 37 56 1 #[(0, .tmp 36)] 29 [(0, .agg #[v44a, v44b])] [v44a, v44b] [(2, pv b2), (7, (.map (some pb))), (25, v30), (26, iv (K.length : Int)), (27, iv i), (31, vr)] hA H fun b49 a w50 H hA hG hge_b49 => ?_
   clear hge_b49
   refine list_at 7 ?_; refine q_push 7 38 (.tmp 31) (.tmp 37) 3 0 b49 1 1 vr l [(Lib.compact (sortL (endsL E rv)), rv)] [v44a, v44b] [(2, pv b2), (7, (.map (some pb))), (25, v30), (26, iv (K.length : Int)), (27, iv i)] hA H Try.E56 rfl rfl (by exact (RowRd.single (α := (List (Int)) × List (Int)) ⟨[_], _, rfl, ⟨_, rfl, rd_slice (H.getS 2 rfl)⟩, ⟨_, rfl, rd_slice (H.getS 1 rfl)⟩⟩)) rfl (by simp only [List.length_cons, List.length_nil, List.length_append]; omega) (by decide) fun v51 a w52 H hA hG => ?_
   replace H : Fr _ _ _ [.ro v44b rv, .ro v44a (Lib.compact (sortL (endsL E rv))), .row 29 v51 (l ++ [(Lib.compact (sortL (endsL E rv)), rv)]), .row 3 v30 K, .box kb29 104 [.map (some pb)], .box fb 106 [.int .i64 n, ve, vd, (.slice (some ⟨mb, 0, none⟩) n.toNat n.toNat), (.slice (some ⟨lb, 0, none⟩) n.toNat n.toNat), .int .i64 s'.cnt, ev, (.map (some pb))], .box mb 3 (arrV n fun j => .int .i64 (s'.met j)), .box lb 3 (arrV n fun j => .int .i64 (s'.low j)), .row 3 ev s'.stk, mapR Try.prog 3 pb ins, .ro vd DL, .box b4 29 [vv, vl], .box b2 24 [.int .i64 n, ve], .ro u rv] := H.drop 0
   refine q_list 8 1 [] [(2, pv b2), (7, (.map (some pb))), (8, v51), (25, v30), (26, iv (K.length : Int)), (27, iv i)] (TT ∧ True) hA H ⟨tv, tv⟩ fun a w53 hA H hG => ?_
   refine list_end ?_
   refine hK40 _ _ ?_
   refine q_reg [] [(2, pv b2), (7, (.map (some pb))), (8, v51), (25, v30), (26, iv (K.length : Int)), (27, iv (i + 1))] ((InR .i64 (i + 1)) ∧ TT ∧ True) hA H ⟨⟨by omega, by omega⟩, tv, tv⟩ fun a w54 hA H hG => ?_
   replace H := H.drop 13
   replace H := H.drop 1
   replace H := H.drop 0
   refine ⟨(i + 1, v51, l ++ [(Lib.compact (sortL (endsL E rv)), rv)]), ⟨env_sub _ hA, ⟨_, H⟩, ?_⟩, ?_⟩
   · (try dsimp only); exact ⟨by omega, by omega, by (try simp only [List.length_append, List.length_cons, List.length_nil]); omega, by rw [hi, take_snoc h0 (by omega), List.map_append]; simp only [List.map_cons, List.map_nil, hval]⟩
   (try dsimp only); omega
 have hhb39 := of_decide_eq_false hb39
 refine go_exit 0 ?_
 refine hK23 _ _ ?_
 refine go_seq fun K55 hK55 => ?_
 refine q_reg [] [(4, vr), (5, iv 0)] (TT ∧ TT ∧ TT ∧ True) hA H ⟨tv, tv, tv, tv⟩ fun a w56 hA H hG => ?_
 refine hK55 _ _ ?_
 refine go_ret_ ?_
 refine ret_two 4 5 vr (.int .i64 0) hA ?_
 have ho := (H.give 0 rfl)
 rw [List.take_of_length_le (by omega)] at hi; have hbe := blocks_val hpt hrest hmet hins hK hKm; rw [hi, hbe] at ho
 exact ⟨_, rfl, ⟨_, by rw [hpt], by unfold blocksE; rw [if_neg (by omega)]; exact ho⟩, H.below⟩
theorem cuts_any (n : Int) (ve : Value) (E : List (Int × Int)) (vv vl : Value) (V L : List Int) (o : Orig) (hn : -9223372036854775808 ≤ n ∧ n ≤ 9223372036854775807) (hE : Rd (· < o.w.heap.size) o.w ve E) (hV : Rd (· < o.w.heap.size) o.w vv V) (hL : Rd (· < o.w.heap.size) o.w vl L) :
 Calls Try.prog 48 [.agg #[.int .i64 n, ve], .agg #[vv, vl]].toArray o.w (Giv o (fun S v w' => ∃ p, v = .tuple #[p, .int .i64 (partE n E V L)] ∧ Rd S w' p (cutsE n E V L))) := by
 refine enter Try.f48 64 Try.func48 fun a hA => ?_
 replace hA := env_sub [(0, .agg #[.int .i64 n, ve]), (1, .agg #[vv, vl])] hA
 have H := Fr.start o
 refine go_seq fun K1 hK1 => ?_
 refine region_list ?_
 refine list_at 0 ?_; refine q_box 0 2 24 (.tmp 0) (.agg #[.int .i64 n, ve]) [.int .i64 n, ve] [(1, .agg #[vv, vl])] hA H fun b2 a w3 H hA hG hge_b2 => ?_
 clear hge_b2
 refine list_at 1 ?_; refine q_box 1 3 29 (.tmp 1) (.agg #[vv, vl]) [vv, vl] [(2, pv b2)] hA H fun b4 a w5 H hA hG hge_b4 => ?_
 clear hge_b4
 refine q_list 2 2 [] [(2, pv b2), (3, pv b4)] (TT ∧ TT ∧ True) hA H ⟨tv, tv, tv⟩ fun a w6 hA H hG => ?_
 refine list_end ?_
 refine hK1 _ _ ?_
 refine go_seq fun K7 hK7 => ?_
 refine region_list ?_
 refine q_list 0 2 [(17, .agg #[.int .i64 n, ve]), (18, .agg #[vv, vl])] [(2, pv b2), (17, .agg #[.int .i64 n, ve]), (18, .agg #[vv, vl])] (((Try.prog.info? 24).isSome = true ∧ RowOk (On w6) b2 (0) (Try.prog.cellsOf 24) #[.int .i64 n, ve]) ∧ ((Try.prog.info? 29).isSome = true ∧ RowOk (On w6) b4 (0) (Try.prog.cellsOf 29) #[vv, vl]) ∧ True) hA H ⟨⟨by kernel_rfl, by exact box_row H 1 rfl 0 2⟩, ⟨by kernel_rfl, by exact box_row H 0 rfl 0 2⟩, tv⟩ fun a w8 hA H hG => ?_
 refine list_at 2 ?_; refine q_call 2 19 47 #[.tmp 17, .tmp 18] #[24, 29] [.agg #[.int .i64 n, ve], .agg #[vv, vl]] (fun S v_ w' => ∃ p_, v_ = .tuple #[p_, .int .i64 (partE n E V L)] ∧ Rd S w' p_ ((blocksE n E V L))) [(2, pv b2)] hA H (by exact blocks_any n ve E vv vl V L H.at (by omega) ((H.arg hE)) ((H.arg hV)) ((H.arg hL))) fun v9 a w10 S hR11 H hA hG => ?_
 obtain ⟨v9p, rfl, hR11p⟩ := hR11
 replace H := H.ro hR11p
 replace H : Fr _ _ _ [.ro v9p (blocksE n E V L), .box b4 29 [vv, vl], .box b2 24 [.int .i64 n, ve]] := H
 refine q_list 3 5 [] [(2, pv b2), (6, v9p), (7, iv (partE n E V L))] (TT ∧ TT ∧ TT ∧ TT ∧ TT ∧ True) hA H ⟨tv, tv, tv, tv, tv, tv⟩ fun a w13 hA H hG => ?_
 refine list_end ?_
 refine hK7 _ _ ?_
 refine go_seq fun K14 hK14 => ?_
 refine go_seq fun K15 hK15 => ?_
 refine q_reg [] [(2, pv b2), (6, v9p), (7, iv (partE n E V L)), (23, .bool (!decide (partE n E V L = 0)))] (TT ∧ TT ∧ True) hA H ⟨tv, tv, tv⟩ fun a w16 hA H hG => ?_
 refine hK15 _ _ ?_
 refine go_cond hA (.tmp 23) (!decide (partE n E V L = 0)) (fun hb17 => ?_) (fun hb17 => ?_)
 · have hhb17 := of_decide_eq_false (nT hb17)
   refine go_seq fun K18 hK18 => ?_
   refine q_reg [] [(4, (.slice none 0 0)), (5, iv (partE n E V L))] (TT ∧ TT ∧ TT ∧ True) hA H ⟨tv, tv, tv, tv⟩ fun a w19 hA H hG => ?_
   refine hK18 _ _ ?_
   refine go_ret_ ?_
   refine ret_two 4 5 (.slice none 0 0) (.int .i64 (partE n E V L)) hA ?_
   exact ⟨_, rfl, ⟨_, rfl, by unfold cutsE; rw [if_pos hhb17]; exact rd_nil⟩, H.below⟩
 have hhb17 := of_decide_eq_true (nF hb17)
 refine go_skip ?_
 refine hK14 _ _ ?_
 refine go_seq fun K20 hK20 => ?_
 have hpt : partE n E V L = 0 := by omega
 have hbe : blocksE n E V L = blocksL n E V L := by unfold blocksE; rw [if_neg (by omega)]
 have hr9 := rightE_0 (part_iff.1 hpt).1
 have hbl9 := blocks_len n E V L
 have hl9 := rises_len (part_iff.1 hpt).2.2.1 (by omega)
 have hv9 := rises_len (part_iff.1 hpt).2.1 (by omega)
 simp only [hbe] at H
 refine region_list ?_
 refine q_list 0 2 [(26, iv n)] [(6, v9p), (26, iv n)] ((0 < Try.prog.cellsOf 3) ∧ (CellOk (On w16) b2 (0 + 0) (.int .i64 n)) ∧ True) hA H ⟨by decide +kernel, by exact box_cell H 2 rfl 0, tv⟩ fun a w21 hA H hG => ?_
 refine list_at 2 ?_; refine q_makeA 2 27 27 (.tmp 26) 3 n (.int .i64 0) [(6, v9p)] hA H Try.underlying27 (make_info (by kernel_rfl)) (by omega) (by omega) fun b22 a w23 H hA hG hge_b22 => ?_
 clear hge_b22
 replace H : Fr _ _ _ [.box b22 3 (arrV n fun j => .int .i64 (cnt0 j)), .ro v9p (blocksL n E V L), .box b4 29 [vv, vl], .box b2 24 [.int .i64 n, ve]] := H
 refine q_list 3 1 [] [(6, v9p), (8, (.slice (some ⟨b22, 0, none⟩) n.toNat n.toNat))] (TT ∧ True) hA H ⟨tv, tv⟩ fun a w24 hA H hG => ?_
 refine list_end ?_
 refine hK20 _ _ ?_
 refine go_seq fun K25 hK25 => ?_
 refine go_seq fun K26 hK26 => ?_
 refine q_reg [(29, iv ((blocksL n E V L).length : Int))] [(8, (.slice (some ⟨b22, 0, none⟩) n.toNat n.toNat)), (28, v9p), (29, iv ((blocksL n E V L).length : Int)), (30, iv 0)] (TT ∧ (LenOk v9p ((blocksL n E V L).length : Int)) ∧ TT ∧ True) hA H ⟨tv, by exact len_ok (H.get 1 rfl), tv, tv⟩ fun a w27 hA H hG => ?_
 refine hK26 _ _ ?_
 refine go_block 0 ?_
 refine go_loop_ (Int × (Int → Int)) (fun x_ a W => (fun (i : Int) (c : (Int → Int)) => EnvOk 64 a (keepEnv [(8, (.slice (some ⟨b22, 0, none⟩) n.toNat n.toNat)), (28, v9p), (29, iv ((blocksL n E V L).length : Int)), (30, iv i)]) ∧ (∃ S, Fr o W S [.box b22 3 (arrV n fun j => .int .i64 (c j)), .ro v9p (blocksL n E V L), .box b4 29 [vv, vl], .box b2 24 [.int .i64 n, ve]]) ∧ 0 ≤ i ∧ i ≤ ((blocksL n E V L).length : Int) ∧ ∀ v, c v = cntI ((blocksL n E V L).take i.toNat) v) x_.1 x_.2) (fun x_ => (fun (i : Int) (c : (Int → Int)) => (((blocksL n E V L).length : Int) - i).toNat) x_.1 x_.2) (0, cnt0) ?_ (fun x_ a w29 hI => ?_)
 · (try dsimp only); exact ⟨env_sub _ hA, ⟨_, H⟩, by omega, by omega, fun v => by simp [cnt0, cntI, hasIn]⟩
 obtain ⟨i, c⟩ := x_
 obtain ⟨hA, ⟨S, H⟩, h0, h0b, hc⟩ := hI
 try dsimp only at h0 h0b hc
 replace H : Fr _ _ _ [.box b22 3 (arrV n fun j => .int .i64 (c j)), .ro v9p (blocksL n E V L), .box b4 29 [vv, vl], .box b2 24 [.int .i64 n, ve]] := H
 refine go_seq fun K30 hK30 => ?_
 refine q_reg [] [(8, (.slice (some ⟨b22, 0, none⟩) n.toNat n.toNat)), (28, v9p), (29, iv ((blocksL n E V L).length : Int)), (30, iv i), (31, .bool (decide (i < ((blocksL n E V L).length : Int))))] (TT ∧ True) hA H ⟨tv, tv⟩ fun a w31 hA H hG => ?_
 refine hK30 _ _ ?_
 refine go_seq fun K32 hK32 => ?_
 refine go_cond hA (.tmp 31) (decide (i < ((blocksL n E V L).length : Int))) (fun hb33 => ?_) (fun hb33 => ?_)
 · have hhb33 := of_decide_eq_true hb33
   refine go_skip ?_
   refine hK32 _ _ ?_
   refine go_seq fun K34 hK34 => ?_
   refine go_block 1 ?_
   refine go_seq fun K35 hK35 => ?_
   have hbm := getD_mem (l := blocksL n E V L) (i := i.toNat) (d := ([], [])) (by omega)
   obtain ⟨q1, q2, q3, q4⟩ := block_rises hpt hbm
   have q5 := rises_len q1 (by omega); have q6 := rises_len q2 (by omega)
   refine region_list ?_
   obtain ⟨ea36, eb37, hea36c, hea36a, hea36b⟩ := cell_twoC (C := On w31) H.keepsS (H.getS 1 rfl) i
   replace H := (H.ro (hea36a (by omega) (by omega))).sink 1 4
   replace H := (H.ro (hea36b (by omega) (by omega))).sink 1 5
   replace H : Fr _ _ _ [.box b22 3 (arrV n fun j => .int .i64 (c j)), .ro v9p (blocksL n E V L), .box b4 29 [vv, vl], .box b2 24 [.int .i64 n, ve], .ro ea36 ((blocksL n E V L).getD i.toNat ([], [])).1, .ro eb37 ((blocksL n E V L).getD i.toNat ([], [])).2] := H
   refine q_list 0 2 [(33, .agg #[ea36, eb37])] [(8, (.slice (some ⟨b22, 0, none⟩) n.toNat n.toNat)), (28, v9p), (29, iv ((blocksL n E V L).length : Int)), (30, iv i), (33, .agg #[ea36, eb37])] (((Try.prog.info? 29).isSome = true ∧ IdxOk v9p i) ∧ ((Try.prog.info? 29).isSome = true ∧ RowOk (On w31) (hdB v9p) (hdO v9p + i.toNat * 2) (Try.prog.cellsOf 29) #[ea36, eb37]) ∧ True) hA H ⟨⟨by kernel_rfl, by exact idx_ok (H.get 1 rfl) (by omega) (by omega)⟩, ⟨by kernel_rfl, by exact hea36c (by omega) (by omega)⟩, tv⟩ fun a w38 hA H hG => ?_
   refine list_at 2 ?_; refine q_alloc 2 10 29 [(.slice none 0 0), (.slice none 0 0)] [(8, (.slice (some ⟨b22, 0, none⟩) n.toNat n.toNat)), (28, v9p), (29, iv ((blocksL n E V L).length : Int)), (30, iv i), (33, .agg #[ea36, eb37])] hA H fun b39 a w40 H hA hG hge_b39 => ?_
   clear hge_b39
   refine list_at 3 ?_; refine q_store 3 29 (.tmp 10) (.tmp 33) 0 b39 (0) 29 [(.slice none 0 0), (.slice none 0 0)] [ea36, eb37] [ea36, eb37] (.agg #[ea36, eb37]) [(8, (.slice (some ⟨b22, 0, none⟩) n.toNat n.toNat)), (10, pv b39), (28, v9p), (29, iv ((blocksL n E V L).length : Int)), (30, iv i)] hA H rfl rfl (Nat.le_of_ble_eq_true (by kernel_rfl)) rfl (fun v hv => by simp only [List.mem_cons, List.not_mem_nil, or_false] at hv; rcases hv with rfl | rfl; exact (rd_one (H.get 5 rfl)); exact (rd_one (H.get 6 rfl))) fun a w41 H hA hG => ?_
   replace H : Fr _ _ _ [.box b39 29 [ea36, eb37], .box b22 3 (arrV n fun j => .int .i64 (c j)), .ro v9p (blocksL n E V L), .box b4 29 [vv, vl], .box b2 24 [.int .i64 n, ve], .ro ea36 ((blocksL n E V L).getD i.toNat ([], [])).1, .ro eb37 ((blocksL n E V L).getD i.toNat ([], [])).2] := H
   refine list_end ?_
   refine hK35 _ _ ?_
   refine go_seq fun K42 hK42 => ?_
   refine q_reg [(35, ea36), (36, iv ((((blocksL n E V L).getD i.toNat ([], [])).1).length : Int))] [(8, (.slice (some ⟨b22, 0, none⟩) n.toNat n.toNat)), (28, v9p), (29, iv ((blocksL n E V L).length : Int)), (30, iv i), (35, ea36), (36, iv ((((blocksL n E V L).getD i.toNat ([], [])).1).length : Int)), (37, iv 0)] ((0 < Try.prog.cellsOf 27) ∧ (CellOk (On w41) b39 (0 + 0) (ea36)) ∧ (LenOk ea36 ((((blocksL n E V L).getD i.toNat ([], [])).1).length : Int)) ∧ TT ∧ True) hA H ⟨by decide +kernel, by exact box_cell H 0 rfl 0, by exact len_ok (H.get 5 rfl), tv, tv⟩ fun a w43 hA H hG => ?_
   refine hK42 _ _ ?_
   refine go_block 2 ?_
   refine go_loop_ (Int × (Int → Int)) (fun x_ a W => (fun (k : Int) (d : (Int → Int)) => EnvOk 64 a (keepEnv [(8, (.slice (some ⟨b22, 0, none⟩) n.toNat n.toNat)), (28, v9p), (29, iv ((blocksL n E V L).length : Int)), (30, iv i), (35, ea36), (36, iv ((((blocksL n E V L).getD i.toNat ([], [])).1).length : Int)), (37, iv k)]) ∧ (∃ S, Fr o W S [.box b39 29 [ea36, eb37], .box b22 3 (arrV n fun j => .int .i64 (d j)), .ro v9p (blocksL n E V L), .box b4 29 [vv, vl], .box b2 24 [.int .i64 n, ve], .ro ea36 ((blocksL n E V L).getD i.toNat ([], [])).1, .ro eb37 ((blocksL n E V L).getD i.toNat ([], [])).2]) ∧ 0 ≤ k ∧ ∀ v, d v = cntI ((blocksL n E V L).take i.toNat) v + (if v ∈ ((blocksL n E V L).getD i.toNat ([], [])).1.take k.toNat then 1 else 0)) x_.1 x_.2) (fun x_ => (fun (k : Int) (d : (Int → Int)) => ((((blocksL n E V L).getD i.toNat ([], [])).1.length : Int) - k).toNat) x_.1 x_.2) (0, c) ?_ (fun x_ a w45 hI => ?_)
   · (try dsimp only); exact ⟨env_sub _ hA, ⟨_, H⟩, by omega, fun v => by rw [hc v]; simp⟩
   obtain ⟨k, d⟩ := x_
   obtain ⟨hA, ⟨S, H⟩, k0, hd⟩ := hI
   try dsimp only at k0 hd
   replace H : Fr _ _ _ [.box b39 29 [ea36, eb37], .box b22 3 (arrV n fun j => .int .i64 (d j)), .ro v9p (blocksL n E V L), .box b4 29 [vv, vl], .box b2 24 [.int .i64 n, ve], .ro ea36 ((blocksL n E V L).getD i.toNat ([], [])).1, .ro eb37 ((blocksL n E V L).getD i.toNat ([], [])).2] := H
   refine go_seq fun K46 hK46 => ?_
   refine q_reg [] [(8, (.slice (some ⟨b22, 0, none⟩) n.toNat n.toNat)), (28, v9p), (29, iv ((blocksL n E V L).length : Int)), (30, iv i), (35, ea36), (36, iv ((((blocksL n E V L).getD i.toNat ([], [])).1).length : Int)), (37, iv k), (38, .bool (decide (k < ((((blocksL n E V L).getD i.toNat ([], [])).1).length : Int))))] (TT ∧ True) hA H ⟨tv, tv⟩ fun a w47 hA H hG => ?_
   refine hK46 _ _ ?_
   refine go_seq fun K48 hK48 => ?_
   refine go_cond hA (.tmp 38) (decide (k < ((((blocksL n E V L).getD i.toNat ([], [])).1).length : Int))) (fun hb49 => ?_) (fun hb49 => ?_)
   · have hhb49 := of_decide_eq_true hb49
     refine go_skip ?_
     refine hK48 _ _ ?_
     refine go_seq fun K50 hK50 => ?_
     refine go_block 3 ?_
     refine go_seq fun K51 hK51 => ?_
     have hx9 := (rises_iff.1 q1).2 _ (mem_getD.2 ⟨k.toNat, by omega, rfl⟩)
     refine q_reg [(40, iv ((((blocksL n E V L).getD i.toNat ([], [])).1).getD k.toNat 0))] [(8, (.slice (some ⟨b22, 0, none⟩) n.toNat n.toNat)), (12, iv ((((blocksL n E V L).getD i.toNat ([], [])).1).getD k.toNat 0)), (28, v9p), (29, iv ((blocksL n E V L).length : Int)), (30, iv i), (35, ea36), (36, iv ((((blocksL n E V L).getD i.toNat ([], [])).1).length : Int)), (37, iv k)] (((Try.prog.info? 3).isSome = true ∧ IdxOk ea36 k) ∧ (CellOk (On w47) (hdB ea36) (hdO ea36 + k.toNat * 1) (.int .i64 ((((blocksL n E V L).getD i.toNat ([], [])).1).getD k.toNat 0))) ∧ TT ∧ True) hA H ⟨⟨by kernel_rfl, by exact idx_ok (H.get 5 rfl) (by omega) (by omega)⟩, by exact cell_flat (i := k) (H.get 5 rfl) (by omega) (by omega) 0 0, tv, tv⟩ fun a w52 hA H hG => ?_
     refine hK51 _ _ ?_
     have hd9 := hd (((blocksL n E V L).getD i.toNat ([], [])).1.getD k.toNat 0)
     have hd8 := cntI_le ((blocksL n E V L).take i.toNat) (((blocksL n E V L).getD i.toNat ([], [])).1.getD k.toNat 0)
     rw [List.length_take] at hd8
     have hd7 : (0 : Int) ≤ d (((blocksL n E V L).getD i.toNat ([], [])).1.getD k.toNat 0) ∧ d (((blocksL n E V L).getD i.toNat ([], [])).1.getD k.toNat 0) ≤ 1000000 := by rw [hd9]; split <;> omega
     refine region_list ?_
     refine q_list 0 6 [(44, iv (d ((((blocksL n E V L).getD i.toNat ([], [])).1).getD k.toNat 0)))] [(8, (.slice (some ⟨b22, 0, none⟩) n.toNat n.toNat)), (28, v9p), (29, iv ((blocksL n E V L).length : Int)), (30, iv i), (35, ea36), (36, iv ((((blocksL n E V L).getD i.toNat ([], [])).1).length : Int)), (37, iv k), (45, iv ((d ((((blocksL n E V L).getD i.toNat ([], [])).1).getD k.toNat 0)) + 1)), (46, .pointer (some ⟨b22, 0 + ((((blocksL n E V L).getD i.toNat ([], [])).1).getD k.toNat 0).toNat * 1, none⟩))] (TT ∧ TT ∧ ((Try.prog.info? 3).isSome = true ∧ IdxOk (.slice (some ⟨b22, 0, none⟩) n.toNat n.toNat) ((((blocksL n E V L).getD i.toNat ([], [])).1).getD k.toNat 0)) ∧ (CellOk (On w52) b22 (0 + ((((blocksL n E V L).getD i.toNat ([], [])).1).getD k.toNat 0).toNat * 1) (.int .i64 (d ((((blocksL n E V L).getD i.toNat ([], [])).1).getD k.toNat 0)))) ∧ (InR .i64 ((d ((((blocksL n E V L).getD i.toNat ([], [])).1).getD k.toNat 0)) + 1)) ∧ ((Try.prog.info? 3).isSome = true ∧ IdxOk (.slice (some ⟨b22, 0, none⟩) n.toNat n.toNat) ((((blocksL n E V L).getD i.toNat ([], [])).1).getD k.toNat 0)) ∧ True) hA H ⟨tv, tv, ⟨by kernel_rfl, arr_idx (by omega) (by omega)⟩, by exact arr_cell H 1 rfl (by omega) (by omega), ⟨by omega, by omega⟩, ⟨by kernel_rfl, arr_idx (by omega) (by omega)⟩, tv⟩ fun a w53 hA H hG => ?_
     refine list_at 6 ?_; refine q_store 6 3 (.tmp 46) (.tmp 45) 1 b22 (0 + ((((blocksL n E V L).getD i.toNat ([], [])).1).getD k.toNat 0).toNat * 1) 3 ((arrV n fun j => .int .i64 (d j))) [.int .i64 ((d ((((blocksL n E V L).getD i.toNat ([], [])).1).getD k.toNat 0)) + 1)] ((arrV n fun j => .int .i64 ((Deep.upd d ((((blocksL n E V L).getD i.toNat ([], [])).1).getD k.toNat 0) ((d ((((blocksL n E V L).getD i.toNat ([], [])).1).getD k.toNat 0)) + 1)) j))) (.int .i64 ((d ((((blocksL n E V L).getD i.toNat ([], [])).1).getD k.toNat 0)) + 1)) [(8, (.slice (some ⟨b22, 0, none⟩) n.toNat n.toNat)), (28, v9p), (29, iv ((blocksL n E V L).length : Int)), (30, iv i), (35, ea36), (36, iv ((((blocksL n E V L).getD i.toNat ([], [])).1).length : Int)), (37, iv k)] hA H rfl rfl (arr_room (by omega) (by omega)) (arr_set (by omega) (by omega) (congrArg (Value.int .i64) (Deep.upd_same _ _ _)) (fun j hj => congrArg (Value.int .i64) (Deep.upd_ne _ _ hj))) (fun v hv => by simp only [List.mem_cons, List.not_mem_nil, or_false] at hv; rcases hv with rfl; exact rfl) fun a w54 H hA hG => ?_
     replace H : Fr _ _ _ [.box b39 29 [ea36, eb37], .box b22 3 (arrV n fun j => .int .i64 ((Deep.upd d ((((blocksL n E V L).getD i.toNat ([], [])).1).getD k.toNat 0) ((d ((((blocksL n E V L).getD i.toNat ([], [])).1).getD k.toNat 0)) + 1)) j)), .ro v9p (blocksL n E V L), .box b4 29 [vv, vl], .box b2 24 [.int .i64 n, ve], .ro ea36 ((blocksL n E V L).getD i.toNat ([], [])).1, .ro eb37 ((blocksL n E V L).getD i.toNat ([], [])).2] := H
     refine list_end ?_
     refine hK50 _ _ ?_
     refine q_reg [] [(8, (.slice (some ⟨b22, 0, none⟩) n.toNat n.toNat)), (28, v9p), (29, iv ((blocksL n E V L).length : Int)), (30, iv i), (35, ea36), (36, iv ((((blocksL n E V L).getD i.toNat ([], [])).1).length : Int)), (37, iv (k + 1))] ((InR .i64 (k + 1)) ∧ TT ∧ True) hA H ⟨⟨by omega, by omega⟩, tv, tv⟩ fun a w55 hA H hG => ?_
     refine ⟨(k + 1, Deep.upd d ((((blocksL n E V L).getD i.toNat ([], [])).1).getD k.toNat 0) ((d ((((blocksL n E V L).getD i.toNat ([], [])).1).getD k.toNat 0)) + 1)), ⟨env_sub _ hA, ⟨_, H⟩, ?_⟩, ?_⟩
     · (try dsimp only); exact ⟨by omega, fun v => cnt_step k0 (by omega) (asc_nodup (rises_iff.1 q1).1) hd v⟩
     (try dsimp only); omega
   have hhb49 := of_decide_eq_false hb49
   refine go_exit 2 ?_
   refine hK34 _ _ ?_
   refine q_reg [] [(8, (.slice (some ⟨b22, 0, none⟩) n.toNat n.toNat)), (28, v9p), (29, iv ((blocksL n E V L).length : Int)), (30, iv (i + 1))] ((InR .i64 (i + 1)) ∧ TT ∧ True) hA H ⟨⟨by omega, by omega⟩, tv, tv⟩ fun a w56 hA H hG => ?_
   replace H := H.drop 6
   replace H := H.drop 5
   replace H := H.drop 0
   refine ⟨(i + 1, d), ⟨env_sub _ hA, ⟨_, H⟩, ?_⟩, ?_⟩
   · (try dsimp only); exact ⟨by omega, by omega, fun v => by rw [hd v, show ((blocksL n E V L).getD i.toNat ([], [])).1.take k.toNat = ((blocksL n E V L).getD i.toNat ([], [])).1 from List.take_of_length_le (by omega), cntI_snoc h0 (by omega)]⟩
   (try dsimp only); omega
 have hhb33 := of_decide_eq_false hb33
 refine go_exit 0 ?_
 refine hK25 _ _ ?_
 refine go_seq fun K57 hK57 => ?_
 refine q_reg [] [(8, (.slice (some ⟨b22, 0, none⟩) n.toNat n.toNat)), (13, (.slice none 0 0))] (TT ∧ True) hA H ⟨tv, tv⟩ fun a w58 hA H hG => ?_
 refine hK57 _ _ ?_
 refine go_seq fun K59 hK59 => ?_
 refine go_seq fun K60 hK60 => ?_
 refine q_reg [(50, iv n)] [(13, (.slice none 0 0)), (49, (.slice (some ⟨b22, 0, none⟩) n.toNat n.toNat)), (50, iv n), (51, iv 0)] (TT ∧ (LenOk (.slice (some ⟨b22, 0, none⟩) n.toNat n.toNat) n) ∧ TT ∧ True) hA H ⟨tv, arr_len_ok (by omega), tv, tv⟩ fun a w61 hA H hG => ?_
 refine hK60 _ _ ?_
 refine go_block 4 ?_
 replace H := H.newRow (α := Int) 3
 refine go_loop_ (Int × Value × List Int) (fun x_ a W => (fun (j : Int) (vr : Value) (l : List Int) => EnvOk 64 a (keepEnv [(13, vr), (49, (.slice (some ⟨b22, 0, none⟩) n.toNat n.toNat)), (50, iv n), (51, iv j)]) ∧ (∃ S, Fr o W S [.row 3 vr l, .box b22 3 (arrV n fun j => .int .i64 (c j)), .ro v9p (blocksL n E V L), .box b4 29 [vv, vl], .box b2 24 [.int .i64 n, ve]]) ∧ 0 ≤ j ∧ j ≤ n ∧ (l.length : Int) ≤ j ∧ l = (upto j).filter (fun v => decide (1 < cntI (blocksL n E V L) v))) x_.1 x_.2.1 x_.2.2) (fun x_ => (fun (j : Int) (vr : Value) (l : List Int) => (n - j).toNat) x_.1 x_.2.1 x_.2.2) (0, .slice none 0 0, []) ?_ (fun x_ a w63 hI => ?_)
 · (try dsimp only); exact ⟨env_sub _ hA, ⟨_, H⟩, by omega, by omega, by simp, rfl⟩
 obtain ⟨j, vr, l⟩ := x_
 obtain ⟨hA, ⟨S, H⟩, j0, j0b, j1, hj⟩ := hI
 try dsimp only at j0 j0b j1 hj
 replace H : Fr _ _ _ [.row 3 vr l, .box b22 3 (arrV n fun j => .int .i64 (c j)), .ro v9p (blocksL n E V L), .box b4 29 [vv, vl], .box b2 24 [.int .i64 n, ve]] := H
 refine go_seq fun K64 hK64 => ?_
 refine q_reg [] [(13, vr), (49, (.slice (some ⟨b22, 0, none⟩) n.toNat n.toNat)), (50, iv n), (51, iv j), (52, .bool (decide (j < n)))] (TT ∧ True) hA H ⟨tv, tv⟩ fun a w65 hA H hG => ?_
 refine hK64 _ _ ?_
 refine go_seq fun K66 hK66 => ?_
 refine go_cond hA (.tmp 52) (decide (j < n)) (fun hb67 => ?_) (fun hb67 => ?_)
 · have hhb67 := of_decide_eq_true hb67
   refine go_skip ?_
   refine hK66 _ _ ?_
   refine go_seq fun K68 hK68 => ?_
   refine go_block 5 ?_
   refine go_seq fun K69 hK69 => ?_
   refine q_reg [(55, iv (c j))] [(13, vr), (14, iv j), (15, iv (c j)), (49, (.slice (some ⟨b22, 0, none⟩) n.toNat n.toNat)), (50, iv n), (51, iv j)] (TT ∧ ((Try.prog.info? 3).isSome = true ∧ IdxOk (.slice (some ⟨b22, 0, none⟩) n.toNat n.toNat) j) ∧ (CellOk (On w65) b22 (0 + j.toNat * 1) (.int .i64 (c j))) ∧ TT ∧ TT ∧ True) hA H ⟨tv, ⟨by kernel_rfl, arr_idx (by omega) (by omega)⟩, by exact arr_cell H 1 rfl (by omega) (by omega), tv, tv, tv⟩ fun a w70 hA H hG => ?_
   refine hK69 _ _ ?_
   refine go_seq fun K71 hK71 => ?_
   refine q_reg [] [(13, vr), (14, iv j), (49, (.slice (some ⟨b22, 0, none⟩) n.toNat n.toNat)), (50, iv n), (51, iv j), (57, .bool (decide ((1 : Int) < c j)))] (TT ∧ TT ∧ True) hA H ⟨tv, tv, tv⟩ fun a w72 hA H hG => ?_
   refine hK71 _ _ ?_
   refine go_cond hA (.tmp 57) (decide ((1 : Int) < c j)) (fun hb73 => ?_) (fun hb73 => ?_)
   · have hhb73 := of_decide_eq_true hb73
     refine region_list ?_
     refine q_list 0 2 [] [(49, (.slice (some ⟨b22, 0, none⟩) n.toNat n.toNat)), (50, iv n), (51, iv j), (58, vr), (59, iv j)] (TT ∧ TT ∧ True) hA H ⟨tv, tv, tv⟩ fun a w74 hA H hG => ?_
     refine list_at 2 ?_; refine q_lit 2 60 27 1 #[(0, .tmp 59)] 3 [(0, iv j)] [.int .i64 j] [(49, (.slice (some ⟨b22, 0, none⟩) n.toNat n.toNat)), (50, iv n), (51, iv j), (58, vr)] hA H fun b75 a w76 H hA hG hge_b75 => ?_
     clear hge_b75
     refine list_at 3 ?_; refine q_push 3 61 (.tmp 58) (.tmp 60) 1 0 b75 1 1 vr l [j] [.int .i64 j] [(49, (.slice (some ⟨b22, 0, none⟩) n.toNat n.toNat)), (50, iv n), (51, iv j)] hA H Try.E27 rfl rfl (by exact (RowRd.single (α := Int) rfl)) rfl (by simp only [List.length_cons, List.length_nil, List.length_append]; omega) (by decide) fun v77 a w78 H hA hG => ?_
     replace H : Fr _ _ _ [.row 3 v77 (l ++ [j]), .box b22 3 (arrV n fun j => .int .i64 (c j)), .ro v9p (blocksL n E V L), .box b4 29 [vv, vl], .box b2 24 [.int .i64 n, ve]] := H.drop 0
     refine q_list 4 1 [] [(13, v77), (49, (.slice (some ⟨b22, 0, none⟩) n.toNat n.toNat)), (50, iv n), (51, iv j)] (TT ∧ True) hA H ⟨tv, tv⟩ fun a w79 hA H hG => ?_
     refine list_end ?_
     refine hK68 _ _ ?_
     refine q_reg [] [(13, v77), (49, (.slice (some ⟨b22, 0, none⟩) n.toNat n.toNat)), (50, iv n), (51, iv (j + 1))] ((InR .i64 (j + 1)) ∧ TT ∧ True) hA H ⟨⟨by omega, by omega⟩, tv, tv⟩ fun a w80 hA H hG => ?_
     refine ⟨(j + 1, v77, l ++ [j]), ⟨env_sub _ hA, ⟨_, H⟩, ?_⟩, ?_⟩
     · (try dsimp only); exact ⟨by omega, by omega, by (try simp only [List.length_append, List.length_cons, List.length_nil]); omega, by rw [hj, upto_succ j0, List.filter_append, List.filter_cons]; rw [hc j, List.take_of_length_le (by omega)] at hhb73; rw [if_pos (decide_eq_true hhb73)]; rfl⟩
     (try dsimp only); omega
   have hhb73 := of_decide_eq_false hb73
   refine go_skip ?_
   refine hK68 _ _ ?_
   refine q_reg [] [(13, vr), (49, (.slice (some ⟨b22, 0, none⟩) n.toNat n.toNat)), (50, iv n), (51, iv (j + 1))] ((InR .i64 (j + 1)) ∧ TT ∧ True) hA H ⟨⟨by omega, by omega⟩, tv, tv⟩ fun a w81 hA H hG => ?_
   refine ⟨(j + 1, vr, l), ⟨env_sub _ hA, ⟨_, H⟩, ?_⟩, ?_⟩
   · (try dsimp only); exact ⟨by omega, by omega, by (try simp only [List.length_append, List.length_cons, List.length_nil]); omega, by rw [hj, upto_succ j0, List.filter_append, List.filter_cons]; rw [hc j, List.take_of_length_le (by omega)] at hhb73; rw [if_neg (by rw [decide_eq_true_eq]; exact hhb73)]; simp⟩
   (try dsimp only); omega
 have hhb67 := of_decide_eq_false hb67
 refine go_exit 4 ?_
 refine hK59 _ _ ?_
 refine go_seq fun K82 hK82 => ?_
 refine q_reg [] [(4, vr), (5, iv 0)] (TT ∧ TT ∧ TT ∧ True) hA H ⟨tv, tv, tv, tv⟩ fun a w83 hA H hG => ?_
 refine hK82 _ _ ?_
 refine go_ret_ ?_
 refine ret_two 4 5 vr (.int .i64 0) hA ?_
 have ho := (H.give 0 rfl)
 obtain rfl : j = n := by omega
 rw [cuts_upto hpt] at hj; rw [hj] at ho; exact ⟨_, rfl, ⟨_, by rw [hpt], by unfold cutsE; rw [if_neg (by omega)]; exact ho⟩, H.below⟩
theorem solid_any (n : Int) (ve : Value) (E : List (Int × Int)) (vv vl : Value) (V L : List Int) (w : World) (hn : -9223372036854775808 ≤ n ∧ n ≤ 9223372036854775807) (hE : Rd (· < w.heap.size) w ve E) (hV : Rd (· < w.heap.size) w vv V) (hL : Rd (· < w.heap.size) w vl L) :
 Calls Try.prog 50 [.agg #[.int .i64 n, ve], .agg #[vv, vl]].toArray w (Ans (.bool (solidB n E V L)) w) := by
 refine enter Try.f50 27 Try.func50 fun a hA => ?_
 replace hA := env_sub [(0, .agg #[.int .i64 n, ve]), (1, .agg #[vv, vl])] hA
 have H := Fr.start (org w)
 refine go_seq fun K1 hK1 => ?_
 refine region_list ?_
 refine list_at 0 ?_; refine q_box 0 2 24 (.tmp 0) (.agg #[.int .i64 n, ve]) [.int .i64 n, ve] [(1, .agg #[vv, vl])] hA H fun b2 a w3 H hA hG hge_b2 => ?_
 clear hge_b2
 refine list_at 1 ?_; refine q_box 1 3 29 (.tmp 1) (.agg #[vv, vl]) [vv, vl] [(2, pv b2)] hA H fun b4 a w5 H hA hG hge_b4 => ?_
 clear hge_b4
 refine q_list 2 1 [] [(2, pv b2), (3, pv b4)] (TT ∧ True) hA H ⟨tv, tv⟩ fun a w6 hA H hG => ?_
 refine list_end ?_
 refine hK1 _ _ ?_
 refine go_seq fun K7 hK7 => ?_
 refine region_list ?_
 refine q_list 0 2 [(8, .agg #[.int .i64 n, ve]), (9, .agg #[vv, vl])] [(3, pv b4), (8, .agg #[.int .i64 n, ve]), (9, .agg #[vv, vl])] (((Try.prog.info? 24).isSome = true ∧ RowOk (On w6) b2 (0) (Try.prog.cellsOf 24) #[.int .i64 n, ve]) ∧ ((Try.prog.info? 29).isSome = true ∧ RowOk (On w6) b4 (0) (Try.prog.cellsOf 29) #[vv, vl]) ∧ True) hA H ⟨⟨by kernel_rfl, by exact box_row H 1 rfl 0 2⟩, ⟨by kernel_rfl, by exact box_row H 0 rfl 0 2⟩, tv⟩ fun a w8 hA H hG => ?_
 refine list_at 2 ?_; refine q_call 2 10 47 #[.tmp 8, .tmp 9] #[24, 29] [.agg #[.int .i64 n, ve], .agg #[vv, vl]] (fun S v_ w' => ∃ p_, v_ = .tuple #[p_, .int .i64 (partE n E V L)] ∧ Rd S w' p_ ((blocksE n E V L))) [(3, pv b4)] hA H (by exact blocks_any n ve E vv vl V L H.at (by omega) ((H.arg hE)) ((H.arg hV)) ((H.arg hL))) fun v9 a w10 S hR11 H hA hG => ?_
 obtain ⟨v9p, rfl, hR11p⟩ := hR11
 replace H := H.ro hR11p
 replace H : Fr _ _ _ [.ro v9p (blocksE n E V L), .box b4 29 [vv, vl], .box b2 24 [.int .i64 n, ve]] := H
 refine q_list 3 5 [] [(3, pv b4), (5, v9p), (6, iv (partE n E V L))] (TT ∧ TT ∧ TT ∧ TT ∧ TT ∧ True) hA H ⟨tv, tv, tv, tv, tv, tv⟩ fun a w13 hA H hG => ?_
 refine list_end ?_
 refine hK7 _ _ ?_
 refine go_seq fun K14 hK14 => ?_
 obtain ⟨ea15, eb16, hea15c, hea15a, hea15b⟩ := cell_twoC (C := On w13) H.keepsS (H.getS 0 rfl) (0 : Int)
 refine q_draw [(17, iv ((blocksE n E V L).length : Int)), (23, .agg #[ea15, eb16]), (24, .agg #[vv, vl]), (25, .bool (decide ((((blocksE n E V L).getD (0 : Int).toNat ([], [])).1) = V) && decide ((((blocksE n E V L).getD (0 : Int).toNat ([], [])).2) = L)))] [(4, .bool (((decide (partE n E V L = 0)) && (decide (((blocksE n E V L).length : Int) = 1))) && (decide ((((blocksE n E V L).getD (0 : Int).toNat ([], [])).1) = V) && decide ((((blocksE n E V L).getD (0 : Int).toNat ([], [])).2) = L))))] (TT ∧ TT ∧ TT ∧ ((decide (partE n E V L = 0)) = true → True) ∧ ((decide (partE n E V L = 0)) = true → LenOk v9p ((blocksE n E V L).length : Int)) ∧ ((decide (partE n E V L = 0)) = true → True) ∧ TT ∧ TT ∧ (((decide (partE n E V L = 0)) && (decide (((blocksE n E V L).length : Int) = 1))) = true → True) ∧ (((decide (partE n E V L = 0)) && (decide (((blocksE n E V L).length : Int) = 1))) = true → (Try.prog.info? 29).isSome = true ∧ IdxOk v9p 0) ∧ (((decide (partE n E V L = 0)) && (decide (((blocksE n E V L).length : Int) = 1))) = true → (Try.prog.info? 29).isSome = true ∧ RowOk (On w13) (hdB v9p) (hdO v9p + (0 : Int).toNat * 2) (Try.prog.cellsOf 29) #[ea15, eb16]) ∧ (((decide (partE n E V L = 0)) && (decide (((blocksE n E V L).length : Int) = 1))) = true → (Try.prog.info? 29).isSome = true ∧ RowOk (On w13) b4 (0) (Try.prog.cellsOf 29) #[vv, vl]) ∧ (((decide (partE n E V L = 0)) && (decide (((blocksE n E V L).length : Int) = 1))) = true → Callable Try.prog 28 ∧ CallOk Try.prog (On w13) 28 [.agg #[ea15, eb16], .agg #[vv, vl]].toArray (.bool (decide ((((blocksE n E V L).getD (0 : Int).toNat ([], [])).1) = V) && decide ((((blocksE n E V L).getD (0 : Int).toNat ([], [])).2) = L)))) ∧ TT ∧ TT ∧ True) hA H ⟨tv, tv, tv, fun _ => trivial, fun _ => by exact len_ok (H.get 0 rfl), fun _ => trivial, tv, tv, fun _ => trivial, fun hg0 => by replace hg0 := (⟨of_decide_eq_true ((aT hg0).1), of_decide_eq_true ((aT hg0).2)⟩ : _ ∧ _); exact ⟨by kernel_rfl, by exact idx_ok (H.get 0 rfl) (by omega) (by omega)⟩, fun hg0 => by replace hg0 := (⟨of_decide_eq_true ((aT hg0).1), of_decide_eq_true ((aT hg0).2)⟩ : _ ∧ _); exact ⟨by kernel_rfl, by exact hea15c (by omega) (by omega)⟩, fun _ => ⟨by kernel_rfl, by exact box_row H 1 rfl 0 2⟩, fun hg0 => by replace hg0 := (⟨of_decide_eq_true ((aT hg0).1), of_decide_eq_true ((aT hg0).2)⟩ : _ ∧ _); exact ⟨callable_of, callOk_of fun w hw => by exact same_any ea15 eb16 vv vl (((blocksE n E V L).getD (0 : Int).toNat ([], [])).1) (((blocksE n E V L).getD (0 : Int).toNat ([], [])).2) V L w ((rd_on (Rd.up H.inb (hea15a (by omega) (by omega))) hw)) ((rd_on (Rd.up H.inb (hea15b (by omega) (by omega))) hw)) (((H.on hw).arg hV)) (((H.on hw).arg hL))⟩, tv, tv, tv⟩ fun a w17 hA H hG => ?_
 refine hK14 _ _ ?_
 refine go_ret_ ?_
 refine ret_one 4 (.bool (((decide (partE n E V L = 0)) && (decide (((blocksE n E V L).length : Int) = 1))) && (decide ((((blocksE n E V L).getD (0 : Int).toNat ([], [])).1) = V) && decide ((((blocksE n E V L).getD (0 : Int).toNat ([], [])).2) = L)))) hA ?_
 exact ans_b' rfl H.below
end Go.Proofs.Ytahonnlgkmimlaa
namespace Go.Proofs.Ytahonnlgkmimlaa
open Go.RowKit
end Go.Proofs.Ytahonnlgkmimlaa
namespace Go.Proofs.Ytahonnlgkmimlaa
open Go.RowKit
end Go.Proofs.Ytahonnlgkmimlaa
namespace Go.Proofs.Ytahonnlgkmimlaa
open Go.RowKit
end Go.Proofs.Ytahonnlgkmimlaa
namespace Go.Proofs.Ytahonnlgkmimlaa
open Go.RowKit
end Go.Proofs.Ytahonnlgkmimlaa
namespace Go.Proofs.Ytahonnlgkmimlaa
open Go.RowKit Go.Proofs.Ytahonnlgkmimlaa.Deep
abbrev awBE : List (Int × Int) := [(0, 1), (1, 2), (2, 0), (2, 3), (3, 4), (4, 2), (0, 0)]
theorem awB_blocks : blocksE 5 awBE (upto 5) (upto (awBE.length : Int)) = [([0, 1, 2], [0, 1, 2]), ([2, 3, 4], [3, 4, 5]), ([0], [6])] := by decide +kernel
theorem awB_part : partE 5 awBE (upto 5) (upto (awBE.length : Int)) = 0 := by decide +kernel
theorem awB_cuts : cutsE 5 awBE (upto 5) (upto (awBE.length : Int)) = [0, 2] := by decide +kernel
def sumI (bs : List (List Int × List Int)) : Int := ((bs.map fun b => b.2.length).sum : Nat)
section
variable {n : Int} {E : List (Int × Int)} {V L : List Int}
end
theorem awakeB_any  (w : World) :
 Calls Try.prog 45 [].toArray w (Ans (.bool true) w) := by
 refine enter Try.f45 53 Try.func45 fun a hA => ?_
 replace hA := env_sub [] hA
 have H := Fr.start (org w)
 refine go_seq fun K1 hK1 => ?_
 refine q_reg [] [] (TT ∧ True) hA H ⟨tv, tv⟩ fun a w2 hA H hG => ?_
 refine hK1 _ _ ?_
 refine go_seq fun K3 hK3 => ?_
 refine region_list ?_
 refine q_list 0 7 [(6, .agg #[.int .i64 0, .int .i64 1]), (7, .agg #[.int .i64 1, .int .i64 2]), (8, .agg #[.int .i64 2, .int .i64 0]), (9, .agg #[.int .i64 2, .int .i64 3]), (10, .agg #[.int .i64 3, .int .i64 4]), (11, .agg #[.int .i64 4, .int .i64 2]), (12, .agg #[.int .i64 0, .int .i64 0])] [(6, .agg #[.int .i64 0, .int .i64 1]), (7, .agg #[.int .i64 1, .int .i64 2]), (8, .agg #[.int .i64 2, .int .i64 0]), (9, .agg #[.int .i64 2, .int .i64 3]), (10, .agg #[.int .i64 3, .int .i64 4]), (11, .agg #[.int .i64 4, .int .i64 2]), (12, .agg #[.int .i64 0, .int .i64 0])] ((∀ w, (Instr.build 99 #[(0, iv 0), (1, iv 1)]).run Try.prog w = .ok (.agg #[.int .i64 0, .int .i64 1]) w) ∧ (∀ w, (Instr.build 99 #[(0, iv 1), (1, iv 2)]).run Try.prog w = .ok (.agg #[.int .i64 1, .int .i64 2]) w) ∧ (∀ w, (Instr.build 99 #[(0, iv 2), (1, iv 0)]).run Try.prog w = .ok (.agg #[.int .i64 2, .int .i64 0]) w) ∧ (∀ w, (Instr.build 99 #[(0, iv 2), (1, iv 3)]).run Try.prog w = .ok (.agg #[.int .i64 2, .int .i64 3]) w) ∧ (∀ w, (Instr.build 99 #[(0, iv 3), (1, iv 4)]).run Try.prog w = .ok (.agg #[.int .i64 3, .int .i64 4]) w) ∧ (∀ w, (Instr.build 99 #[(0, iv 4), (1, iv 2)]).run Try.prog w = .ok (.agg #[.int .i64 4, .int .i64 2]) w) ∧ (∀ w, (Instr.build 99 #[]).run Try.prog w = .ok (.agg #[.int .i64 0, .int .i64 0]) w) ∧ True) hA H ⟨fun w => by kernel_rfl, fun w => by kernel_rfl, fun w => by kernel_rfl, fun w => by kernel_rfl, fun w => by kernel_rfl, fun w => by kernel_rfl, fun w => by kernel_rfl, tv⟩ fun a w4 hA H hG => ?_
 refine list_at 7 ?_; refine q_lit 7 13 22 7 #[(0, .tmp 6), (1, .tmp 7), (2, .tmp 8), (3, .tmp 9), (4, .tmp 10), (5, .tmp 11), (6, .tmp 12)] 99 [(0, .agg #[.int .i64 0, .int .i64 1]), (1, .agg #[.int .i64 1, .int .i64 2]), (2, .agg #[.int .i64 2, .int .i64 0]), (3, .agg #[.int .i64 2, .int .i64 3]), (4, .agg #[.int .i64 3, .int .i64 4]), (5, .agg #[.int .i64 4, .int .i64 2]), (6, .agg #[.int .i64 0, .int .i64 0])] [.int .i64 0, .int .i64 1, .int .i64 1, .int .i64 2, .int .i64 2, .int .i64 0, .int .i64 2, .int .i64 3, .int .i64 3, .int .i64 4, .int .i64 4, .int .i64 2, .int .i64 0, .int .i64 0] [] hA H fun b5 a w6 H hA hG hge_b5 => ?_
 clear hge_b5
 refine q_list 8 1 [(14, .agg #[.int .i64 5, (.slice (some ⟨b5, 0, none⟩) 7 7)])] [(14, .agg #[.int .i64 5, (.slice (some ⟨b5, 0, none⟩) 7 7)])] ((∀ w, (Instr.build 24 #[(0, iv 5), (1, (.slice (some ⟨b5, 0, none⟩) 7 7))]).run Try.prog w = .ok (.agg #[.int .i64 5, (.slice (some ⟨b5, 0, none⟩) 7 7)]) w) ∧ True) hA H ⟨fun w => by kernel_rfl, tv⟩ fun a w7 hA H hG => ?_
 refine list_at 9 ?_; refine q_alloc 9 1 24 [.int .i64 0, (.slice none 0 0)] [(14, .agg #[.int .i64 5, (.slice (some ⟨b5, 0, none⟩) 7 7)])] hA H fun b8 a w9 H hA hG hge_b8 => ?_
 clear hge_b8
 refine list_at 10 ?_; refine q_store 10 24 (.tmp 1) (.tmp 14) 0 b8 (0) 24 [.int .i64 0, (.slice none 0 0)] [.int .i64 5, (.slice (some ⟨b5, 0, none⟩) 7 7)] [.int .i64 5, (.slice (some ⟨b5, 0, none⟩) 7 7)] (.agg #[.int .i64 5, (.slice (some ⟨b5, 0, none⟩) 7 7)]) [(1, pv b8)] hA H rfl rfl (Nat.le_of_ble_eq_true (by kernel_rfl)) rfl (fun v hv => by simp only [List.mem_cons, List.not_mem_nil, or_false] at hv; rcases hv with rfl | rfl; exact rfl; exact rfl) fun a w10 H hA hG => ?_
 replace H : Fr _ _ _ [.box b8 24 [.int .i64 5, (.slice (some ⟨b5, 0, none⟩) 7 7)], .box b5 99 [.int .i64 0, .int .i64 1, .int .i64 1, .int .i64 2, .int .i64 2, .int .i64 0, .int .i64 2, .int .i64 3, .int .i64 3, .int .i64 4, .int .i64 4, .int .i64 2, .int .i64 0, .int .i64 0]] := H
 refine list_end ?_
 refine hK3 _ _ ?_
 refine go_seq fun K11 hK11 => ?_
 have H0 := H
 have hM0 := H0.keeps none (.inl rfl)
 refine region_mix (But w10 none) [0, 1, 2, 3, 4, 5, 6, 7] 9 ?_
 replace H := H.drawn; have hD := But.drew w10 none
 generalize ({ w10 with drawn := w10.drawn + 1 } : World) = w12 at H hD ⊢
 refine m_take (n := 7) [0, 1] #[true, true, false, false, false, false, false, false, false] [(16, .agg #[.int .i64 5, (.slice (some ⟨b5, 0, none⟩) 7 7)]), (17, .agg #[.int .i64 5, (.slice (some ⟨b5, 0, none⟩) 7 7)])] [(1, pv b8), (16, .agg #[.int .i64 5, (.slice (some ⟨b5, 0, none⟩) 7 7)]), (17, .agg #[.int .i64 5, (.slice (some ⟨b5, 0, none⟩) 7 7)])] (((Try.prog.info? 24).isSome = true ∧ RowOk (But w10 none) b8 (0) (Try.prog.cellsOf 24) #[.int .i64 5, (.slice (some ⟨b5, 0, none⟩) 7 7)]) ∧ ((Try.prog.info? 24).isSome = true ∧ RowOk (But w10 none) b8 (0) (Try.prog.cellsOf 24) #[.int .i64 5, (.slice (some ⟨b5, 0, none⟩) 7 7)]) ∧ True) hA hD ⟨⟨by kernel_rfl, by exact box_rowC (box_atC H0 none 0 rfl (fun e => by cases e)) 0 2⟩, ⟨by kernel_rfl, by exact box_rowC (box_atC H0 none 0 rfl (fun e => by cases e)) 0 2⟩, tv⟩ fun a hA => ?_
 refine m_one 2 ?_; refine q_call 2 18 33 #[.tmp 17] #[24] [.agg #[.int .i64 5, (.slice (some ⟨b5, 0, none⟩) 7 7)]] (fun S v_ w' => Rd S w' v_ ((upto 5, upto (([(0, 1), (1, 2), (2, 0), (2, 3), (3, 4), (4, 2), (0, 0)] : List (Int × Int)).length : Int)))) [(1, pv b8), (16, .agg #[.int .i64 5, (.slice (some ⟨b5, 0, none⟩) 7 7)])] hA H (by exact rwhole_any 5 (.slice (some ⟨b5, 0, none⟩) 7 7) ([(0, 1), (1, 2), (2, 0), (2, 3), (3, 4), (4, 2), (0, 0)] : List (Int × Int)) H.at (by omega) ((H.lit 1 rfl (l := ([(0, 1), (1, 2), (2, 0), (2, 3), (3, 4), (4, 2), (0, 0)] : List (Int × Int))) (by exact (((((((RowRd.single (α := Int × Int) (a := (0, 1)) (by exact ⟨[_], _, rfl, rfl, rfl⟩)).append (RowRd.single (α := Int × Int) (a := (1, 2)) (by exact ⟨[_], _, rfl, rfl, rfl⟩))).append (RowRd.single (α := Int × Int) (a := (2, 0)) (by exact ⟨[_], _, rfl, rfl, rfl⟩))).append (RowRd.single (α := Int × Int) (a := (2, 3)) (by exact ⟨[_], _, rfl, rfl, rfl⟩))).append (RowRd.single (α := Int × Int) (a := (3, 4)) (by exact ⟨[_], _, rfl, rfl, rfl⟩))).append (RowRd.single (α := Int × Int) (a := (4, 2)) (by exact ⟨[_], _, rfl, rfl, rfl⟩))).append (RowRd.single (α := Int × Int) (a := (0, 0)) (by exact ⟨[_], _, rfl, rfl, rfl⟩)))) (n := 7) rfl (by decide))) (by first | omega | decide) (by first | omega | decide)) fun v13 a w14 S hR15 H hA hG => ?_
 obtain ⟨v13a, v13b, rfl, hR15a, hR15b⟩ := two_rd hR15
 replace H := H.ro hR15a; replace H := H.ro hR15b
 replace H : Fr _ _ _ [.ro v13b (upto (([(0, 1), (1, 2), (2, 0), (2, 3), (3, 4), (4, 2), (0, 0)] : List (Int × Int)).length : Int)), .ro v13a (upto 5), .box b8 24 [.int .i64 5, (.slice (some ⟨b5, 0, none⟩) 7 7)], .box b5 99 [.int .i64 0, .int .i64 1, .int .i64 1, .int .i64 2, .int .i64 2, .int .i64 0, .int .i64 2, .int .i64 3, .int .i64 3, .int .i64 4, .int .i64 4, .int .i64 2, .int .i64 0, .int .i64 0]] := H
 replace hD := hD.below hG
 refine ⟨fun _ => hD, ?_⟩
 refine m_one 3 ?_; refine q_call 3 19 47 #[.tmp 16, .tmp 18] #[24, 29] [.agg #[.int .i64 5, (.slice (some ⟨b5, 0, none⟩) 7 7)], .agg #[v13a, v13b]] (fun S v_ w' => ∃ p_, v_ = .tuple #[p_, .int .i64 0] ∧ Rd S w' p_ (([([0, 1, 2], [0, 1, 2]), ([2, 3, 4], [3, 4, 5]), ([0], [6])] : List (List Int × List Int)))) [(1, pv b8)] hA H (by exact (by have h := blocks_any 5 (.slice (some ⟨b5, 0, none⟩) 7 7) ([(0, 1), (1, 2), (2, 0), (2, 3), (3, 4), (4, 2), (0, 0)] : List (Int × Int)) v13a v13b (upto 5) (upto (([(0, 1), (1, 2), (2, 0), (2, 3), (3, 4), (4, 2), (0, 0)] : List (Int × Int)).length : Int)) H.at (by omega) ((H.lit 3 rfl (l := ([(0, 1), (1, 2), (2, 0), (2, 3), (3, 4), (4, 2), (0, 0)] : List (Int × Int))) (by exact (((((((RowRd.single (α := Int × Int) (a := (0, 1)) (by exact ⟨[_], _, rfl, rfl, rfl⟩)).append (RowRd.single (α := Int × Int) (a := (1, 2)) (by exact ⟨[_], _, rfl, rfl, rfl⟩))).append (RowRd.single (α := Int × Int) (a := (2, 0)) (by exact ⟨[_], _, rfl, rfl, rfl⟩))).append (RowRd.single (α := Int × Int) (a := (2, 3)) (by exact ⟨[_], _, rfl, rfl, rfl⟩))).append (RowRd.single (α := Int × Int) (a := (3, 4)) (by exact ⟨[_], _, rfl, rfl, rfl⟩))).append (RowRd.single (α := Int × Int) (a := (4, 2)) (by exact ⟨[_], _, rfl, rfl, rfl⟩))).append (RowRd.single (α := Int × Int) (a := (0, 0)) (by exact ⟨[_], _, rfl, rfl, rfl⟩)))) (n := 7) rfl (by decide))) ((H.get 1 rfl)) ((H.get 0 rfl)); rw [awB_blocks, awB_part] at h; exact h)) fun v18 a w19 S hR20 H hA hG => ?_
 obtain ⟨v18p, rfl, hR20p⟩ := hR20
 replace H := H.ro hR20p
 replace H : Fr _ _ _ [.ro v18p ([([0, 1, 2], [0, 1, 2]), ([2, 3, 4], [3, 4, 5]), ([0], [6])] : List (List Int × List Int)), .ro v13b (upto (([(0, 1), (1, 2), (2, 0), (2, 3), (3, 4), (4, 2), (0, 0)] : List (Int × Int)).length : Int)), .ro v13a (upto 5), .box b8 24 [.int .i64 5, (.slice (some ⟨b5, 0, none⟩) 7 7)], .box b5 99 [.int .i64 0, .int .i64 1, .int .i64 1, .int .i64 2, .int .i64 2, .int .i64 0, .int .i64 2, .int .i64 3, .int .i64 3, .int .i64 4, .int .i64 4, .int .i64 2, .int .i64 0, .int .i64 0]] := H
 replace hD := hD.below hG
 refine ⟨fun _ => hD, ?_⟩
 refine m_take (n := 1) [4, 5, 6, 7] #[true, true, true, true, true, true, true, true, false] [] [(1, pv b8), (2, v18p), (21, iv 0)] (TT ∧ TT ∧ TT ∧ TT ∧ True) hA hD ⟨tv, tv, tv, tv, tv⟩ fun a hA => ?_
 refine m_one 8 ?_; refine q_one 8 [] [(1, pv b8), (2, v18p), (3, iv 0)] (TT ∧ True) hA H ⟨tv, tv⟩ fun a w22 H hA hG => ?_
 refine ⟨fun h => absurd h (by decide), ?_⟩
 refine m_end ?_
 refine hK11 _ _ ?_
 refine go_seq fun K23 hK23 => ?_
 have H0 := H
 have hM0 := H0.keeps none (.inl rfl)
 refine region_mix (But w22 none) [0, 1, 2, 3, 4, 5, 6, 7] 9 ?_
 replace H := H.drawn; have hD := But.drew w22 none
 generalize ({ w22 with drawn := w22.drawn + 1 } : World) = w24 at H hD ⊢
 refine m_take (n := 7) [0, 1] #[true, true, false, false, false, false, false, false, false] [(23, .agg #[.int .i64 5, (.slice (some ⟨b5, 0, none⟩) 7 7)]), (24, .agg #[.int .i64 5, (.slice (some ⟨b5, 0, none⟩) 7 7)])] [(2, v18p), (3, iv 0), (23, .agg #[.int .i64 5, (.slice (some ⟨b5, 0, none⟩) 7 7)]), (24, .agg #[.int .i64 5, (.slice (some ⟨b5, 0, none⟩) 7 7)])] (((Try.prog.info? 24).isSome = true ∧ RowOk (But w22 none) b8 (0) (Try.prog.cellsOf 24) #[.int .i64 5, (.slice (some ⟨b5, 0, none⟩) 7 7)]) ∧ ((Try.prog.info? 24).isSome = true ∧ RowOk (But w22 none) b8 (0) (Try.prog.cellsOf 24) #[.int .i64 5, (.slice (some ⟨b5, 0, none⟩) 7 7)]) ∧ True) hA hD ⟨⟨by kernel_rfl, by exact box_rowC (box_atC H0 none 3 rfl (fun e => by cases e)) 0 2⟩, ⟨by kernel_rfl, by exact box_rowC (box_atC H0 none 3 rfl (fun e => by cases e)) 0 2⟩, tv⟩ fun a hA => ?_
 refine m_one 2 ?_; refine q_call 2 25 33 #[.tmp 24] #[24] [.agg #[.int .i64 5, (.slice (some ⟨b5, 0, none⟩) 7 7)]] (fun S v_ w' => Rd S w' v_ ((upto 5, upto (([(0, 1), (1, 2), (2, 0), (2, 3), (3, 4), (4, 2), (0, 0)] : List (Int × Int)).length : Int)))) [(2, v18p), (3, iv 0), (23, .agg #[.int .i64 5, (.slice (some ⟨b5, 0, none⟩) 7 7)])] hA H (by exact rwhole_any 5 (.slice (some ⟨b5, 0, none⟩) 7 7) ([(0, 1), (1, 2), (2, 0), (2, 3), (3, 4), (4, 2), (0, 0)] : List (Int × Int)) H.at (by omega) ((H.lit 4 rfl (l := ([(0, 1), (1, 2), (2, 0), (2, 3), (3, 4), (4, 2), (0, 0)] : List (Int × Int))) (by exact (((((((RowRd.single (α := Int × Int) (a := (0, 1)) (by exact ⟨[_], _, rfl, rfl, rfl⟩)).append (RowRd.single (α := Int × Int) (a := (1, 2)) (by exact ⟨[_], _, rfl, rfl, rfl⟩))).append (RowRd.single (α := Int × Int) (a := (2, 0)) (by exact ⟨[_], _, rfl, rfl, rfl⟩))).append (RowRd.single (α := Int × Int) (a := (2, 3)) (by exact ⟨[_], _, rfl, rfl, rfl⟩))).append (RowRd.single (α := Int × Int) (a := (3, 4)) (by exact ⟨[_], _, rfl, rfl, rfl⟩))).append (RowRd.single (α := Int × Int) (a := (4, 2)) (by exact ⟨[_], _, rfl, rfl, rfl⟩))).append (RowRd.single (α := Int × Int) (a := (0, 0)) (by exact ⟨[_], _, rfl, rfl, rfl⟩)))) (n := 7) rfl (by decide))) (by first | omega | decide) (by first | omega | decide)) fun v25 a w26 S hR27 H hA hG => ?_
 obtain ⟨v25a, v25b, rfl, hR27a, hR27b⟩ := two_rd hR27
 replace H := H.ro hR27a; replace H := H.ro hR27b
 replace H : Fr _ _ _ [.ro v25b (upto (([(0, 1), (1, 2), (2, 0), (2, 3), (3, 4), (4, 2), (0, 0)] : List (Int × Int)).length : Int)), .ro v25a (upto 5), .ro v18p ([([0, 1, 2], [0, 1, 2]), ([2, 3, 4], [3, 4, 5]), ([0], [6])] : List (List Int × List Int)), .ro v13b (upto (([(0, 1), (1, 2), (2, 0), (2, 3), (3, 4), (4, 2), (0, 0)] : List (Int × Int)).length : Int)), .ro v13a (upto 5), .box b8 24 [.int .i64 5, (.slice (some ⟨b5, 0, none⟩) 7 7)], .box b5 99 [.int .i64 0, .int .i64 1, .int .i64 1, .int .i64 2, .int .i64 2, .int .i64 0, .int .i64 2, .int .i64 3, .int .i64 3, .int .i64 4, .int .i64 4, .int .i64 2, .int .i64 0, .int .i64 0]] := H
 replace hD := hD.below hG
 refine ⟨fun _ => hD, ?_⟩
 refine m_one 3 ?_; refine q_call 3 26 48 #[.tmp 23, .tmp 25] #[24, 29] [.agg #[.int .i64 5, (.slice (some ⟨b5, 0, none⟩) 7 7)], .agg #[v25a, v25b]] (fun S v_ w' => ∃ p_, v_ = .tuple #[p_, .int .i64 0] ∧ Rd S w' p_ (([0, 2] : List Int))) [(2, v18p), (3, iv 0)] hA H (by exact (by have h := cuts_any 5 (.slice (some ⟨b5, 0, none⟩) 7 7) ([(0, 1), (1, 2), (2, 0), (2, 3), (3, 4), (4, 2), (0, 0)] : List (Int × Int)) v25a v25b (upto 5) (upto (([(0, 1), (1, 2), (2, 0), (2, 3), (3, 4), (4, 2), (0, 0)] : List (Int × Int)).length : Int)) H.at (by omega) ((H.lit 6 rfl (l := ([(0, 1), (1, 2), (2, 0), (2, 3), (3, 4), (4, 2), (0, 0)] : List (Int × Int))) (by exact (((((((RowRd.single (α := Int × Int) (a := (0, 1)) (by exact ⟨[_], _, rfl, rfl, rfl⟩)).append (RowRd.single (α := Int × Int) (a := (1, 2)) (by exact ⟨[_], _, rfl, rfl, rfl⟩))).append (RowRd.single (α := Int × Int) (a := (2, 0)) (by exact ⟨[_], _, rfl, rfl, rfl⟩))).append (RowRd.single (α := Int × Int) (a := (2, 3)) (by exact ⟨[_], _, rfl, rfl, rfl⟩))).append (RowRd.single (α := Int × Int) (a := (3, 4)) (by exact ⟨[_], _, rfl, rfl, rfl⟩))).append (RowRd.single (α := Int × Int) (a := (4, 2)) (by exact ⟨[_], _, rfl, rfl, rfl⟩))).append (RowRd.single (α := Int × Int) (a := (0, 0)) (by exact ⟨[_], _, rfl, rfl, rfl⟩)))) (n := 7) rfl (by decide))) ((H.get 1 rfl)) ((H.get 0 rfl)); rw [awB_cuts, awB_part] at h; exact h)) fun v30 a w31 S hR32 H hA hG => ?_
 obtain ⟨v30p, rfl, hR32p⟩ := hR32
 replace H := H.ro hR32p
 replace H : Fr _ _ _ [.ro v30p ([0, 2] : List Int), .ro v25b (upto (([(0, 1), (1, 2), (2, 0), (2, 3), (3, 4), (4, 2), (0, 0)] : List (Int × Int)).length : Int)), .ro v25a (upto 5), .ro v18p ([([0, 1, 2], [0, 1, 2]), ([2, 3, 4], [3, 4, 5]), ([0], [6])] : List (List Int × List Int)), .ro v13b (upto (([(0, 1), (1, 2), (2, 0), (2, 3), (3, 4), (4, 2), (0, 0)] : List (Int × Int)).length : Int)), .ro v13a (upto 5), .box b8 24 [.int .i64 5, (.slice (some ⟨b5, 0, none⟩) 7 7)], .box b5 99 [.int .i64 0, .int .i64 1, .int .i64 1, .int .i64 2, .int .i64 2, .int .i64 0, .int .i64 2, .int .i64 3, .int .i64 3, .int .i64 4, .int .i64 4, .int .i64 2, .int .i64 0, .int .i64 0]] := H
 replace hD := hD.below hG
 refine ⟨fun _ => hD, ?_⟩
 refine m_take (n := 1) [4, 5, 6, 7] #[true, true, true, true, true, true, true, true, false] [] [(2, v18p), (3, iv 0), (4, v30p), (28, iv 0)] (TT ∧ TT ∧ TT ∧ TT ∧ True) hA hD ⟨tv, tv, tv, tv, tv⟩ fun a hA => ?_
 refine m_one 8 ?_; refine q_one 8 [] [(2, v18p), (3, iv 0), (4, v30p), (5, iv 0)] (TT ∧ True) hA H ⟨tv, tv⟩ fun a w34 H hA hG => ?_
 refine ⟨fun h => absurd h (by decide), ?_⟩
 refine m_end ?_
 refine hK23 _ _ ?_
 refine go_seq fun K35 hK35 => ?_
 refine region_list ?_
 refine q_list 0 12 [(37, iv (([([0, 1, 2], [0, 1, 2]), ([2, 3, 4], [3, 4, 5]), ([0], [6])] : List (List Int × List Int)).length : Int))] [(2, v18p), (4, v30p), (40, .bool (((decide ((0 : Int) = 0)) && (decide ((0 : Int) = 0))) && (decide ((([([0, 1, 2], [0, 1, 2]), ([2, 3, 4], [3, 4, 5]), ([0], [6])] : List (List Int × List Int)).length : Int) = 3))))] (TT ∧ TT ∧ TT ∧ ((decide ((0 : Int) = 0)) = true → True) ∧ ((decide ((0 : Int) = 0)) = true → True) ∧ TT ∧ TT ∧ (((decide ((0 : Int) = 0)) && (decide ((0 : Int) = 0))) = true → True) ∧ (((decide ((0 : Int) = 0)) && (decide ((0 : Int) = 0))) = true → LenOk v18p (([([0, 1, 2], [0, 1, 2]), ([2, 3, 4], [3, 4, 5]), ([0], [6])] : List (List Int × List Int)).length : Int)) ∧ (((decide ((0 : Int) = 0)) && (decide ((0 : Int) = 0))) = true → True) ∧ TT ∧ TT ∧ True) hA H ⟨tv, tv, tv, fun _ => trivial, fun _ => trivial, tv, tv, fun _ => trivial, fun _ => by exact len_ok (H.get 3 rfl), fun _ => trivial, tv, tv, tv⟩ fun a w36 hA H hG => ?_
 have hb37 : (((decide ((0 : Int) = 0)) && (decide ((0 : Int) = 0))) && (decide ((([([0, 1, 2], [0, 1, 2]), ([2, 3, 4], [3, 4, 5]), ([0], [6])] : List (List Int × List Int)).length : Int) = 3))) = true := (by decide +kernel)
 have hhb37 := (⟨(⟨of_decide_eq_true ((aT ((aT hb37).1)).1), of_decide_eq_true ((aT ((aT hb37).1)).2)⟩ : _ ∧ _), of_decide_eq_true ((aT hb37).2)⟩ : _ ∧ _)
 obtain ⟨ea38, eb39, hea38c, hea38a, hea38b⟩ := cell_twoC (C := On w36) H.keepsS (H.getS 3 rfl) (1 : Int)
 replace H := (H.ro (hea38a (by first | omega | decide +kernel) (by first | omega | decide +kernel))).sink 1 8
 replace H := (H.ro (hea38b (by first | omega | decide +kernel) (by first | omega | decide +kernel))).sink 1 9
 replace H : Fr _ _ _ [.ro v30p ([0, 2] : List Int), .ro v25b (upto (([(0, 1), (1, 2), (2, 0), (2, 3), (3, 4), (4, 2), (0, 0)] : List (Int × Int)).length : Int)), .ro v25a (upto 5), .ro v18p ([([0, 1, 2], [0, 1, 2]), ([2, 3, 4], [3, 4, 5]), ([0], [6])] : List (List Int × List Int)), .ro v13b (upto (([(0, 1), (1, 2), (2, 0), (2, 3), (3, 4), (4, 2), (0, 0)] : List (Int × Int)).length : Int)), .ro v13a (upto 5), .box b8 24 [.int .i64 5, (.slice (some ⟨b5, 0, none⟩) 7 7)], .box b5 99 [.int .i64 0, .int .i64 1, .int .i64 1, .int .i64 2, .int .i64 2, .int .i64 0, .int .i64 2, .int .i64 3, .int .i64 3, .int .i64 4, .int .i64 4, .int .i64 2, .int .i64 0, .int .i64 0], .ro ea38 (([([0, 1, 2], [0, 1, 2]), ([2, 3, 4], [3, 4, 5]), ([0], [6])] : List (List Int × List Int)).getD (1 : Int).toNat ([], [])).1, .ro eb39 (([([0, 1, 2], [0, 1, 2]), ([2, 3, 4], [3, 4, 5]), ([0], [6])] : List (List Int × List Int)).getD (1 : Int).toNat ([], [])).2] := H
 refine q_listK [(40, true)] 12 4 [(44, eb39)] [(4, v30p), (40, .bool (((decide ((0 : Int) = 0)) && (decide ((0 : Int) = 0))) && (decide ((([([0, 1, 2], [0, 1, 2]), ([2, 3, 4], [3, 4, 5]), ([0], [6])] : List (List Int × List Int)).length : Int) = 3)))), (44, eb39)] (((((((decide ((0 : Int) = 0)) && (decide ((0 : Int) = 0))) && (decide ((([([0, 1, 2], [0, 1, 2]), ([2, 3, 4], [3, 4, 5]), ([0], [6])] : List (List Int × List Int)).length : Int) = 3))) = true) ∧ True) ∧ (True)) ∧ ((((((decide ((0 : Int) = 0)) && (decide ((0 : Int) = 0))) && (decide ((([([0, 1, 2], [0, 1, 2]), ([2, 3, 4], [3, 4, 5]), ([0], [6])] : List (List Int × List Int)).length : Int) = 3))) = true) ∧ True) ∧ ((Try.prog.info? 29).isSome = true ∧ IdxOk v18p 1)) ∧ ((((((decide ((0 : Int) = 0)) && (decide ((0 : Int) = 0))) && (decide ((([([0, 1, 2], [0, 1, 2]), ([2, 3, 4], [3, 4, 5]), ([0], [6])] : List (List Int × List Int)).length : Int) = 3))) = true) ∧ True) ∧ (0 < Try.prog.cellsOf 27)) ∧ ((((((decide ((0 : Int) = 0)) && (decide ((0 : Int) = 0))) && (decide ((([([0, 1, 2], [0, 1, 2]), ([2, 3, 4], [3, 4, 5]), ([0], [6])] : List (List Int × List Int)).length : Int) = 3))) = true) ∧ True) ∧ (CellOk (On w36) (hdB v18p) (hdO v18p + (1 : Int).toNat * 2 + 1) (eb39))) ∧ True) hA H ⟨⟨⟨hb37, tv⟩, tv⟩, ⟨⟨hb37, tv⟩, ⟨by kernel_rfl, by exact idx_ok (H.get 3 rfl) (by first | omega | decide +kernel) (by first | omega | decide +kernel)⟩⟩, ⟨⟨hb37, tv⟩, by decide +kernel⟩, ⟨⟨hb37, tv⟩, by exact row_cellC (hea38c (by first | omega | decide +kernel) (by first | omega | decide +kernel)) 1⟩, tv⟩ fun a w40 hA H hG => ?_
 refine list_at 16 ?_; refine op_on [(40, true)] (((((decide ((0 : Int) = 0)) && (decide ((0 : Int) = 0))) && (decide ((([([0, 1, 2], [0, 1, 2]), ([2, 3, 4], [3, 4, 5]), ([0], [6])] : List (List Int × List Int)).length : Int) = 3))) = true) ∧ True) hA ⟨hb37, tv⟩ ?_; refine q_lit 16 45 27 3 #[(0, .const (.int .i64 3)), (1, .const (.int .i64 4)), (2, .const (.int .i64 5))] 3 [(0, iv 3), (1, iv 4), (2, iv 5)] [.int .i64 3, .int .i64 4, .int .i64 5] [(4, v30p), (40, .bool (((decide ((0 : Int) = 0)) && (decide ((0 : Int) = 0))) && (decide ((([([0, 1, 2], [0, 1, 2]), ([2, 3, 4], [3, 4, 5]), ([0], [6])] : List (List Int × List Int)).length : Int) = 3)))), (44, eb39)] hA H fun b41 a w42 H hA hG hge_b41 => ?_
 clear hge_b41
 refine q_listK [(40, true)] 17 3 [(46, .bool (decide (((([([0, 1, 2], [0, 1, 2]), ([2, 3, 4], [3, 4, 5]), ([0], [6])] : List (List Int × List Int)).getD (1 : Int).toNat ([], [])).2) = ([3, 4, 5] : List Int))))] [(4, v30p), (48, .bool (decide (((([([0, 1, 2], [0, 1, 2]), ([2, 3, 4], [3, 4, 5]), ([0], [6])] : List (List Int × List Int)).getD (1 : Int).toNat ([], [])).2) = ([3, 4, 5] : List Int))))] (((((((decide ((0 : Int) = 0)) && (decide ((0 : Int) = 0))) && (decide ((([([0, 1, 2], [0, 1, 2]), ([2, 3, 4], [3, 4, 5]), ([0], [6])] : List (List Int × List Int)).length : Int) = 3))) = true) ∧ True) ∧ (Callable Try.prog 36 ∧ CallOk Try.prog (On w42) 36 [eb39, (.slice (some ⟨b41, 0, none⟩) 3 3)].toArray (.bool (decide (((([([0, 1, 2], [0, 1, 2]), ([2, 3, 4], [3, 4, 5]), ([0], [6])] : List (List Int × List Int)).getD (1 : Int).toNat ([], [])).2) = ([3, 4, 5] : List Int)))))) ∧ (TT ∧ ((((decide ((0 : Int) = 0)) && (decide ((0 : Int) = 0))) && (decide ((([([0, 1, 2], [0, 1, 2]), ([2, 3, 4], [3, 4, 5]), ([0], [6])] : List (List Int × List Int)).length : Int) = 3))) = true)) ∧ (TT ∧ (True)) ∧ True) hA H ⟨⟨⟨hb37, tv⟩, ⟨callable_of, callOk_of fun w hw => by exact requal_any eb39 (.slice (some ⟨b41, 0, none⟩) 3 3) ((([([0, 1, 2], [0, 1, 2]), ([2, 3, 4], [3, 4, 5]), ([0], [6])] : List (List Int × List Int)).getD (1 : Int).toNat ([], [])).2) ([3, 4, 5] : List Int) w (((H.on hw).get 10 rfl)) (((H.on hw).lit 0 rfl (l := ([3, 4, 5] : List Int)) (by exact (((RowRd.single (α := Int) (a := 3) (by exact rfl)).append (RowRd.single (α := Int) (a := 4) (by exact rfl))).append (RowRd.single (α := Int) (a := 5) (by exact rfl)))) (n := 3) rfl (by decide)))⟩⟩, ⟨tv, hb37⟩, ⟨tv, tv⟩, tv⟩ fun a w43 hA H hG => ?_
 have hb44 : (decide (((([([0, 1, 2], [0, 1, 2]), ([2, 3, 4], [3, 4, 5]), ([0], [6])] : List (List Int × List Int)).getD (1 : Int).toNat ([], [])).2) = ([3, 4, 5] : List Int))) = true := (by decide +kernel)
 have hhb44 := of_decide_eq_true hb44
 refine q_listK [(40, true), (48, true)] 20 1 [] [(48, .bool (decide (((([([0, 1, 2], [0, 1, 2]), ([2, 3, 4], [3, 4, 5]), ([0], [6])] : List (List Int × List Int)).getD (1 : Int).toNat ([], [])).2) = ([3, 4, 5] : List Int)))), (49, v30p)] (((((decide (((([([0, 1, 2], [0, 1, 2]), ([2, 3, 4], [3, 4, 5]), ([0], [6])] : List (List Int × List Int)).getD (1 : Int).toNat ([], [])).2) = ([3, 4, 5] : List Int))) = true) ∧ True) ∧ (True)) ∧ True) hA H ⟨⟨⟨hb44, tv⟩, tv⟩, tv⟩ fun a w45 hA H hG => ?_
 refine list_at 21 ?_; refine op_on [(40, true), (48, true)] (((decide (((([([0, 1, 2], [0, 1, 2]), ([2, 3, 4], [3, 4, 5]), ([0], [6])] : List (List Int × List Int)).getD (1 : Int).toNat ([], [])).2) = ([3, 4, 5] : List Int))) = true) ∧ True) hA ⟨hb44, tv⟩ ?_; refine q_lit 21 50 27 2 #[(0, .const (.int .i64 0)), (1, .const (.int .i64 2))] 3 [(0, iv 0), (1, iv 2)] [.int .i64 0, .int .i64 2] [(48, .bool (decide (((([([0, 1, 2], [0, 1, 2]), ([2, 3, 4], [3, 4, 5]), ([0], [6])] : List (List Int × List Int)).getD (1 : Int).toNat ([], [])).2) = ([3, 4, 5] : List Int)))), (49, v30p)] hA H fun b46 a w47 H hA hG hge_b46 => ?_
 clear hge_b46
 refine q_listK [(40, true), (48, true)] 22 3 [(51, .bool (decide (([0, 2] : List Int) = ([0, 2] : List Int))))] [(0, .bool (decide (([0, 2] : List Int) = ([0, 2] : List Int))))] (((((decide (((([([0, 1, 2], [0, 1, 2]), ([2, 3, 4], [3, 4, 5]), ([0], [6])] : List (List Int × List Int)).getD (1 : Int).toNat ([], [])).2) = ([3, 4, 5] : List Int))) = true) ∧ True) ∧ (Callable Try.prog 36 ∧ CallOk Try.prog (On w47) 36 [v30p, (.slice (some ⟨b46, 0, none⟩) 2 2)].toArray (.bool (decide (([0, 2] : List Int) = ([0, 2] : List Int)))))) ∧ (TT ∧ ((decide (((([([0, 1, 2], [0, 1, 2]), ([2, 3, 4], [3, 4, 5]), ([0], [6])] : List (List Int × List Int)).getD (1 : Int).toNat ([], [])).2) = ([3, 4, 5] : List Int))) = true)) ∧ (TT ∧ (True)) ∧ True) hA H ⟨⟨⟨hb44, tv⟩, ⟨callable_of, callOk_of fun w hw => by exact requal_any v30p (.slice (some ⟨b46, 0, none⟩) 2 2) ([0, 2] : List Int) ([0, 2] : List Int) w (((H.on hw).get 2 rfl)) (((H.on hw).lit 0 rfl (l := ([0, 2] : List Int)) (by exact ((RowRd.single (α := Int) (a := 0) (by exact rfl)).append (RowRd.single (α := Int) (a := 2) (by exact rfl)))) (n := 2) rfl (by decide)))⟩⟩, ⟨tv, hb44⟩, ⟨tv, tv⟩, tv⟩ fun a w48 hA H hG => ?_
 refine list_end ?_
 refine hK35 _ _ ?_
 refine go_ret_ ?_
 refine ret_one 0 (.bool (decide (([0, 2] : List Int) = ([0, 2] : List Int)))) hA ?_
 exact ans_b' (by decide +kernel) H.below
theorem smallB_any (n : Int) (ve : Value) (E : List (Int × Int)) (vv vl : Value) (V L : List Int) (w : World) (hn : -9223372036854775808 ≤ n ∧ n ≤ 9223372036854775807) (hE : Rd (· < w.heap.size) w ve E) (hV : Rd (· < w.heap.size) w vv V) (hL : Rd (· < w.heap.size) w vl L) :
 Calls Try.prog 46 [.agg #[.int .i64 n, ve], .agg #[vv, vl]].toArray w (Ans (.bool (((decide ((smallI n E V L) = 1)) && (decide ((L.length : Int) ≤ 20))) && (decide ((V.length : Int) ≤ 20)))) w) := by
 refine enter Try.f46 21 Try.func46 fun a hA => ?_
 replace hA := env_sub [(0, .agg #[.int .i64 n, ve]), (1, .agg #[vv, vl])] hA
 have H := Fr.start (org w)
 refine go_seq fun K1 hK1 => ?_
 refine region_list ?_
 refine list_at 0 ?_; refine q_box 0 2 24 (.tmp 0) (.agg #[.int .i64 n, ve]) [.int .i64 n, ve] [(1, .agg #[vv, vl])] hA H fun b2 a w3 H hA hG hge_b2 => ?_
 clear hge_b2
 refine list_at 1 ?_; refine q_box 1 3 29 (.tmp 1) (.agg #[vv, vl]) [vv, vl] [(2, pv b2)] hA H fun b4 a w5 H hA hG hge_b4 => ?_
 clear hge_b4
 refine q_list 2 1 [] [(2, pv b2), (3, pv b4)] (TT ∧ True) hA H ⟨tv, tv⟩ fun a w6 hA H hG => ?_
 refine list_end ?_
 refine hK1 _ _ ?_
 refine go_seq fun K7 hK7 => ?_
 refine q_reg [(5, .agg #[.int .i64 n, ve]), (6, .agg #[vv, vl]), (7, iv (smallI n E V L)), (11, vl), (12, iv (L.length : Int)), (17, vv), (18, iv (V.length : Int))] [(4, .bool (((decide (smallI n E V L = 1)) && (decide ((L.length : Int) ≤ 20))) && (decide ((V.length : Int) ≤ 20))))] (((Try.prog.info? 24).isSome = true ∧ RowOk (On w6) b2 (0) (Try.prog.cellsOf 24) #[.int .i64 n, ve]) ∧ ((Try.prog.info? 29).isSome = true ∧ RowOk (On w6) b4 (0) (Try.prog.cellsOf 29) #[vv, vl]) ∧ (Callable Try.prog 18 ∧ CallOk Try.prog (On w6) 18 [.agg #[.int .i64 n, ve], .agg #[vv, vl]].toArray (.int .i64 (smallI n E V L))) ∧ TT ∧ TT ∧ ((decide (smallI n E V L = 1)) = true → 0 < Try.prog.cellsOf 27) ∧ ((decide (smallI n E V L = 1)) = true → CellOk (On w6) b4 (0 + 1) (vl)) ∧ ((decide (smallI n E V L = 1)) = true → LenOk vl (L.length : Int)) ∧ ((decide (smallI n E V L = 1)) = true → True) ∧ TT ∧ TT ∧ (((decide (smallI n E V L = 1)) && (decide ((L.length : Int) ≤ 20))) = true → 0 < Try.prog.cellsOf 27) ∧ (((decide (smallI n E V L = 1)) && (decide ((L.length : Int) ≤ 20))) = true → CellOk (On w6) b4 (0 + 0) (vv)) ∧ (((decide (smallI n E V L = 1)) && (decide ((L.length : Int) ≤ 20))) = true → LenOk vv (V.length : Int)) ∧ (((decide (smallI n E V L = 1)) && (decide ((L.length : Int) ≤ 20))) = true → True) ∧ TT ∧ TT ∧ True) hA H ⟨⟨by kernel_rfl, by exact box_row H 1 rfl 0 2⟩, ⟨by kernel_rfl, by exact box_row H 0 rfl 0 2⟩, ⟨callable_of, callOk_of fun w hw => by exact small_any n ve E vv vl V L w (by omega) (((H.on hw).arg hE)) (((H.on hw).arg hV)) (((H.on hw).arg hL))⟩, tv, tv, fun _ => by decide +kernel, fun _ => by exact box_cell H 0 rfl 1, fun _ => by exact len_ok (H.arg hL), fun _ => trivial, tv, tv, fun _ => by decide +kernel, fun _ => by exact box_cell H 0 rfl 0, fun _ => by exact len_ok (H.arg hV), fun _ => trivial, tv, tv, tv⟩ fun a w8 hA H hG => ?_
 refine hK7 _ _ ?_
 refine go_ret_ ?_
 refine ret_one 4 (.bool (((decide (smallI n E V L = 1)) && (decide ((L.length : Int) ≤ 20))) && (decide ((V.length : Int) ≤ 20)))) hA ?_
 exact ans_b' rfl H.below
section
variable {P : Program} {S T : Stab} {w : World} {v : Value}
theorem rd_gr {g : Int × List (Int × Int)} (h : Rd T w v g) : ∃ ve, v = .agg #[.int .i64 g.1, ve] ∧ Rd T w ve g.2 := by
 obtain ⟨cs, ⟨c1, c2, rfl, h1, h2⟩, rfl⟩ := h
 have h1 : c1 = [.int .i64 g.1] := h1
 subst h1
 obtain ⟨ve, rfl, h3⟩ := h2
 exact ⟨ve, rfl, slice_rd h3⟩
theorem rd_pt {p : List Int × List Int} (h : Rd T w v p) : ∃ vv vl, v = .agg #[vv, vl] ∧ Rd T w vv p.1 ∧ Rd T w vl p.2 := by
 obtain ⟨cs, ⟨c1, c2, rfl, h1, h2⟩, rfl⟩ := h
 obtain ⟨vv, rfl, h3⟩ := h1
 obtain ⟨vl, rfl, h4⟩ := h2
 exact ⟨vv, vl, rfl, slice_rd h3, slice_rd h4⟩
theorem rd_int {x : Int} (h : Rd T w v x) : v = .int .i64 x := by
 obtain ⟨cs, h1, rfl⟩ := h
 have h1 : cs = [.int .i64 x] := h1
 subst h1; rfl
theorem int_rd (x : Int) : Rd T w (.int .i64 x) x := ⟨[.int .i64 x], rfl, rfl⟩
theorem bool_rd (x : Bool) : Rd T w (.bool x) x := ⟨[.bool x], rfl, rfl⟩
theorem giv_int {f : FuncId} {args : Array Value} {o : Orig} {x : Int} (h : Calls P f args o.w (Ans (.int .i64 x) o.w)) : Calls P f args o.w (Giv o fun S v w' => RetOk S w' [.int] v ((x, ()) : Vals [.int])) :=
 h.mono fun e w' ⟨h1, h2⟩ => ⟨_, h1, int_rd x, h2⟩
theorem giv_bool {f : FuncId} {args : Array Value} {o : Orig} {x : Bool} (h : Calls P f args o.w (Ans (.bool x) o.w)) : Calls P f args o.w (Giv o fun S v w' => RetOk S w' [.bool] v ((x, ()) : Vals [.bool])) :=
 h.mono fun e w' ⟨h1, h2⟩ => ⟨_, h1, bool_rd x, h2⟩
end
abbrev inR (n : Int) : Prop := -9223372036854775808 ≤ n ∧ n ≤ 9223372036854775807
theorem rpart_c : ConOk Try.prog 31 [(false, grT), (false, ptT)] [.int] (fun x => inR (show Int from x.1.1)) (fun x => (partE (show Int from x.1.1) (show List (Int × Int) from x.1.2) (show List Int from x.2.1.1) (show List Int from x.2.1.2), ())) := by
 intro o vs x hx hd
 match vs, hx with
 | [v1, v2], hx =>
   obtain ⟨ve, rfl, hE⟩ := rd_gr hx.1
   obtain ⟨vv, vl, rfl, hV, hL⟩ := rd_pt hx.2.1
   exact giv_int (rightPart_any _ ve _ vv vl _ _ o.w hd hE hV hL)
def C_rpart : Con Try.prog := plain rpart_c
theorem in_c : ConOk Try.prog 24 [(false, .list .int), (false, .int)] [.bool] (fun _ => True) (fun x => (decide ((show Int from x.2.1) ∈ (show List Int from x.1)), ())) := by
 intro o vs x hx hd
 match vs, hx with
 | [v1, v2], hx =>
   have e := rd_int hx.2.1
   subst e
   exact giv_bool (in_any v1 _ _ o.w hx.1)
def C_in : Con Try.prog := plain in_c
theorem solid_c : ConOk Try.prog 50 [(false, grT), (false, ptT)] [.bool] (fun x => inR (show Int from x.1.1)) (fun x => (solidB (show Int from x.1.1) (show List (Int × Int) from x.1.2) (show List Int from x.2.1.1) (show List Int from x.2.1.2), ())) := by
 intro o vs x hx hd
 match vs, hx with
 | [v1, v2], hx =>
   obtain ⟨ve, rfl, hE⟩ := rd_gr hx.1
   obtain ⟨vv, vl, rfl, hV, hL⟩ := rd_pt hx.2.1
   exact giv_bool (solid_any _ ve _ vv vl _ _ o.w hd hE hV hL)
def C_solid : Con Try.prog := plain solid_c
theorem small_c : ConOk Try.prog 46 [(false, grT), (false, ptT)] [.bool] (fun x => inR (show Int from x.1.1)) (fun x => (((decide ((smallI (show Int from x.1.1) (show List (Int × Int) from x.1.2) (show List Int from x.2.1.1) (show List Int from x.2.1.2) = 1)) && (decide (((show List Int from x.2.1.2).length : Int) ≤ 20))) && (decide (((show List Int from x.2.1.1).length : Int) ≤ 20))), ())) := by
 intro o vs x hx hd
 match vs, hx with
 | [v1, v2], hx =>
   obtain ⟨ve, rfl, hE⟩ := rd_gr hx.1
   obtain ⟨vv, vl, rfl, hV, hL⟩ := rd_pt hx.2.1
   exact giv_bool (smallB_any _ ve _ vv vl _ _ o.w hd hE hV hL)
def C_small : Con Try.prog := plain small_c
theorem awakeB_c : ConOk Try.prog 45 [] [.bool] (fun _ => True) (fun _ => (true, ())) := by
 intro o vs x hx hd
 match vs, hx with
 | [], _ => exact giv_bool (awakeB_any o.w)
def C_awakeB : Con Try.prog := plain awakeB_c
theorem blocks_c : ConOk Try.prog 47 [(false, grT), (false, ptT)] [.list ptT, .int] (fun x => inR (show Int from x.1.1)) (fun x => (blocksE (show Int from x.1.1) (show List (Int × Int) from x.1.2) (show List Int from x.2.1.1) (show List Int from x.2.1.2), partE (show Int from x.1.1) (show List (Int × Int) from x.1.2) (show List Int from x.2.1.1) (show List Int from x.2.1.2), ())) := by
 intro o vs x hx hd
 match vs, hx with
 | [v1, v2], hx =>
   obtain ⟨ve, rfl, hE⟩ := rd_gr hx.1
   obtain ⟨vv, vl, rfl, hV, hL⟩ := rd_pt hx.2.1
   exact (blocks_any _ ve _ vv vl _ _ o hd hE hV hL).mono fun e w' ⟨v, h1, ⟨p, h2, h3⟩, h4⟩ => ⟨v, h1, ⟨[p, .int .i64 _], h2, h3, int_rd _, tv⟩, h4⟩
def C_blocks : Con Try.prog := plain blocks_c
theorem cuts_c : ConOk Try.prog 48 [(false, grT), (false, ptT)] [.list .int, .int] (fun x => inR (show Int from x.1.1)) (fun x => (cutsE (show Int from x.1.1) (show List (Int × Int) from x.1.2) (show List Int from x.2.1.1) (show List Int from x.2.1.2), partE (show Int from x.1.1) (show List (Int × Int) from x.1.2) (show List Int from x.2.1.1) (show List Int from x.2.1.2), ())) := by
 intro o vs x hx hd
 match vs, hx with
 | [v1, v2], hx =>
   obtain ⟨ve, rfl, hE⟩ := rd_gr hx.1
   obtain ⟨vv, vl, rfl, hV, hL⟩ := rd_pt hx.2.1
   exact (cuts_any _ ve _ vv vl _ _ o hd hE hV hL).mono fun e w' ⟨v, h1, ⟨p, h2, h3⟩, h4⟩ => ⟨v, h1, ⟨[p, .int .i64 _], h2, h3, int_rd _, tv⟩, h4⟩
def C_cuts : Con Try.prog := plain cuts_c
theorem pieces_c : ConOk Try.prog 85 [(false, grT), (false, ptT)] [(.list ptT), .int] (fun x => inR (show Int from x.1.1)) (fun x => (if partE (show Int from x.1.1) (show List (Int × Int) from x.1.2) (show List Int from x.2.1.1) (show List Int from x.2.1.2) ≠ 0 then [] else piecesF (show List (Int × Int) from x.1.2) (show List Int from x.2.1.1) (show List Int from x.2.1.2), partE (show Int from x.1.1) (show List (Int × Int) from x.1.2) (show List Int from x.2.1.1) (show List Int from x.2.1.2), ())) := by
 refine con_of Try.f85 106 [C_leav, C_reach, C_rpart] Try.func85 fun o x hd _ _ h => ?_
 obtain ⟨⟨n, E⟩, ⟨V, L⟩, _⟩ := x
 change Int at n
 change List (Int × Int) at E
 change List Int at V
 change List Int at L
 have hl0 : (E.length : Int) ≤ 9223372036854775807 := lenAt h 0 (t := edT) (l := E)
 have hl1 : (V.length : Int) ≤ 9223372036854775807 := lenAt h 1 (t := .int) (l := V)
 have hl2 : (L.length : Int) ≤ 9223372036854775807 := lenAt h 2 (t := .int) (l := L)
 change inR n at hd
 refine go (pr := (inR n)) [] h hd fun _ _ h => ?_
 refine go_if h (fun (q1 : ¬ (partE n E V L = 0)) => ?_) (fun (q1 : partE n E V L = 0) => ?_)
 · refine go0 [] h fun _ _ h => ?_
   exact out (([] : List ((List Int) × List Int)), (partE n E V L : Int), ()) h (congrArg (fun z => (z, partE n E V L, ())) (if_pos (c := partE n E V L ≠ 0) q1).symm)
 have hp := q1
 obtain ⟨hr, hVr, hLr, hok⟩ := partE_0 hp
 obtain ⟨hn0, hn1, hEn, _⟩ := rightE_0 hr
 have hVn := rises_len hVr hn0
 have hLn := rises_len hLr (by omega)
 refine go (pr := (partE n E V L = 0)) [] h hp fun _ _ h => ?_
 refine go_loop (Int × (List (Int × Int)) × (List (List Int × List Int))) (fun x_ => (fun (i : Int) (pm : List (Int × Int)) (ou : List (List Int × List Int)) => ⟨[(2, ep 0), (3, ep 1), (7, em 2), (8, em 3), (9, eo 4), (30, eo 5), (31, en (V.length : Int)), (32, en i)], [(0, some (.box 24 [.v (.int .i64 n), .own 6])), (1, some (.box 29 [.own 5, .own 7])), (2, some (.mro .int (.list .int) (leavF E L))), (3, some (.map .int .int pm)), (4, some (.ext (.nest 8 none 29 ptT 3 ou))), (5, some (.ar .int V)), (6, some (.ar edT E)), (7, some (.ar .int L))], 9⟩) x_.1 x_.2.1 x_.2.2) (fun x_ => (fun (i : Int) (pm : List (Int × Int)) (ou : List (List Int × List Int)) => 0 ≤ i ∧ i ≤ (V.length : Int) ∧ PInv E V L i pm ou) x_.1 x_.2.1 x_.2.2) (fun x_ => (fun (i : Int) (pm : List (Int × Int)) (ou : List (List Int × List Int)) => ((V.length : Int) - i).toNat) x_.1 x_.2.1 x_.2.2) (0, [], []) [(0, some 3), (1, some 4099), (2, some 49155), (3, some 57347), (4, none), (5, some 1), (6, some 0), (7, some 2), (8, none)] h ⟨by omega, by omega, PInv.zero E V L⟩ fun x_ _ _ _ hK1 hI h => ?_
 obtain ⟨i, pm, ou⟩ := x_
 obtain ⟨i0, i1, hP⟩ := hI
 dsimp only at i0 i1 hP
 refine go0 [] h fun _ _ h => ?_
 refine go_if h (fun (q2 : i < (V.length : Int)) => ?_) (fun (q2 : ¬ (i < (V.length : Int))) => ?_)
 · obtain ⟨x1, x2, _⟩ := hVr i.toNat (by omega)
   have nP := Nat.le_trans hP.n (Nat.mul_le_mul_right 3000 (show i.toNat ≤ 1024 by omega))
   have oP := hP.o
   refine go (pr := (Bnd i V.length) ∧ (kwf .int (V.getD i.toNat 0))) [] h ⟨bx, wk⟩ fun _ _ h => ?_
   refine go_if h (fun (q3 : ((lkI pm (V.getD i.toNat 0)).isSome) = false) => ?_) (fun (q3 : ((lkI pm (V.getD i.toNat 0)).isSome) = true) => ?_)
   · obtain ⟨R1, _, R3, _⟩ := reach_ok (shut := -1) (dok_head hr (leav_DOk hp) (V.getD i.toNat 0))
     refine go (pr := (rightE n E = 0 ∧ DOk E (leavF E L) ∧ 0 ≤ (V.getD i.toNat 0) ∧ (V.getD i.toNat 0) < 1024)) [] h (⟨hr, leav_DOk hp, x1, by omega⟩) fun _ _ h => ?_
     refine go_loop ((Int → Bool) × Nat × (Option (Int × Int)) × (List (Int × Int))) (fun x_ => (fun (lf : Int → Bool) (cnt : Nat) (cur : Option (Int × Int)) (pm2 : List (Int × Int)) => ⟨[(2, ep 0), (3, ep 1), (7, em 2), (8, em 3), (9, eo 4), (11, en (V.getD i.toNat 0)), (30, eo 5), (31, en (V.length : Int)), (32, en i), (48, ep 6)], [(0, some (.box 24 [.v (.int .i64 n), .own 7])), (1, some (.box 29 [.own 5, .own 8])), (2, some (.mro .int (.list .int) (leavF E L))), (3, some (.map .int .int pm2)), (4, some (.ext (.nest 9 none 29 ptT 3 ou))), (5, some (.ar .int V)), (6, some (.iter .int .int (reachF E (leavF E L) (V.getD i.toNat 0) (-1 : Int)) lf cnt cur)), (7, some (.ar edT E)), (8, some (.ar .int L))], 10⟩) x_.1 x_.2.1 x_.2.2.1 x_.2.2.2) (fun x_ => (fun (lf : Int → Bool) (cnt : Nat) (cur : Option (Int × Int)) (pm2 : List (Int × Int)) => ItI (reachF E (leavF E L) (V.getD i.toNat 0) (-1)) pm (ou.length : Int) lf cnt pm2 ∧ True) x_.1 x_.2.1 x_.2.2.1 x_.2.2.2) (fun x_ => (fun (lf : Int → Bool) (cnt : Nat) (cur : Option (Int × Int)) (pm2 : List (Int × Int)) => cnt) x_.1 x_.2.1 x_.2.2.1 x_.2.2.2) ((fun z => (lkI (reachF E (leavF E L) (V.getD i.toNat 0) (-1)) z).isSome), (reachF E (leavF E L) (V.getD i.toNat 0) (-1)).length, none, pm) [(0, some 0), (1, some 1), (2, some 2), (3, some 3), (4, some 4), (5, some 5), (6, some 73737), (7, some 6), (8, some 7), (9, some 8)] h ⟨ItI.start _ _ _, tv⟩ fun x_ _ _ _ hK2 hI h => ?_
     obtain ⟨lf, cnt, cur, pm2⟩ := x_
     obtain ⟨hT, _⟩ := hI
     dsimp only at hT
     refine go0 [] h fun _ _ h => ?_
     refine go_next ⟨.int, .int, (reachF E (leavF E L) (V.getD i.toNat 0) (-1 : Int)), lf, cnt, cur, 6, 49⟩ h (fun (hl1 : ∀ x : Int, lf x = false) _ _ h => ?_) (fun (k1 : Int) (v1 : Int) (c1 : Nat) (hl1 : lf k1 = true) (hw1 : -9223372036854775808 ≤ k1 ∧ k1 ≤ 9223372036854775807) (hk1 : lkI (reachF E (leavF E L) (V.getD i.toNat 0) (-1 : Int)) k1 = some v1) (hc1 : c1 < cnt) _ _ h => ?_)
     · obtain ⟨hI2, hS2⟩ := hP.new i0 q2 q3 R3 (by omega) (hT.fin hl1)
       obtain ⟨⟨a1, a2⟩, a3⟩ := PInv.at2 hS2
       refine go (pr := (ou.length + ([([], [])] : List ((List Int) × List Int)).length ≤ 2147483647) ∧ (kwf .int (V.getD i.toNat 0)) ∧ (Bnd ((lkI pm2 (V.getD i.toNat 0)).getD 0) (ou ++ ([([], [])] : List ((List Int) × List Int))).length) ∧ ((((ou ++ ([([], [])] : List ((List Int) × List Int))).getD ((lkI pm2 (V.getD i.toNat 0)).getD 0).toNat ([], [])).1).length + ([(V.getD i.toNat 0)] : List Int).length ≤ 2147483647) ∧ (Bnd ((lkI pm2 (V.getD i.toNat 0)).getD 0) (ou ++ ([([], [])] : List ((List Int) × List Int))).length) ∧ (Bnd ((lkI pm2 (V.getD i.toNat 0)).getD 0) (ou ++ ([([], [])] : List ((List Int) × List Int))).length) ∧ (Bnd ((lkI pm2 (V.getD i.toNat 0)).getD 0) (ou ++ ([([], [])] : List ((List Int) × List Int))).length) ∧ (holeP (some (((lkI pm2 (V.getD i.toNat 0)).getD 0).toNat * 2 + 0)) (((lkI pm2 (V.getD i.toNat 0)).getD 0).toNat * 2 + 0)) ∧ (InR .i64 (i + 1))) [(59, true)] h ⟨ln, wk, bx, ln, bx, bx, bx, rfl, r64⟩ fun _ _ h => ?_
       exact lp_ (hK1 (i + 1, pm2, ((ou ++ ([([], [])] : List ((List Int) × List Int))).set ((lkI pm2 (V.getD i.toNat 0)).getD 0).toNat (((((ou ++ ([([], [])] : List ((List Int) × List Int))).getD ((lkI pm2 (V.getD i.toNat 0)).getD 0).toNat ([], [])).1) ++ ([(V.getD i.toNat 0)] : List Int)), ((ou ++ ([([], [])] : List ((List Int) × List Int))).getD ((lkI pm2 (V.getD i.toNat 0)).getD 0).toNat ([], [])).2))) [(0, some 0), (1, some 1), (2, some 2), (3, some 3), (4, some 20490), (5, some 5), (6, some 7), (7, some 8), (8, some 94218)] h ⟨by omega, by omega, hI2⟩ (lt_))
     have nT := hT.n
     refine go (pr := (kwf .int k1) ∧ (pm2.length ≤ 2147483647)) [] h ⟨wk, ln⟩ fun _ _ h => ?_
     exact lp_ (hK2 ((fun z => lf z && !decide (z = k1)), c1, some (k1, v1), (ptI pm2 k1 (ou.length : Int))) [(0, some 0), (1, some 1), (2, some 2), (3, some 3), (4, some 4), (5, some 5), (6, some 6), (7, some 7), (8, some 8), (9, some 9)] h ⟨hT.step hl1 hk1 hc1, tv⟩ (hc1))
   obtain ⟨⟨a1, a2⟩, a3⟩ := hP.at_ i0 i1 (x := (V.getD i.toNat 0)) q3
   have hI1 := hP.met i0 q2 q3
   refine go (pr := (kwf .int (V.getD i.toNat 0)) ∧ (Bnd ((lkI pm (V.getD i.toNat 0)).getD 0) ou.length) ∧ (((ou.getD ((lkI pm (V.getD i.toNat 0)).getD 0).toNat ([], [])).1).length + ([(V.getD i.toNat 0)] : List Int).length ≤ 2147483647) ∧ (Bnd ((lkI pm (V.getD i.toNat 0)).getD 0) ou.length) ∧ (Bnd ((lkI pm (V.getD i.toNat 0)).getD 0) ou.length) ∧ (Bnd ((lkI pm (V.getD i.toNat 0)).getD 0) ou.length) ∧ (holeP (some (((lkI pm (V.getD i.toNat 0)).getD 0).toNat * 2 + 0)) (((lkI pm (V.getD i.toNat 0)).getD 0).toNat * 2 + 0)) ∧ (InR .i64 (i + 1))) [] h ⟨wk, bx, ln, bx, bx, bx, rfl, r64⟩ fun _ _ h => ?_
   exact lp_ (hK1 (i + 1, pm, (ou.set ((lkI pm (V.getD i.toNat 0)).getD 0).toNat ((((ou.getD ((lkI pm (V.getD i.toNat 0)).getD 0).toNat ([], [])).1) ++ ([(V.getD i.toNat 0)] : List Int)), (ou.getD ((lkI pm (V.getD i.toNat 0)).getD 0).toNat ([], [])).2))) [(0, some 0), (1, some 1), (2, some 2), (3, some 3), (4, some 4), (5, some 5), (6, some 6), (7, some 7), (8, some 122889)] h ⟨by omega, by omega, hI1⟩ (lt_))
 have hF := hP.fin q2
 refine go0 [] h fun _ _ h => ?_
 refine go_loop (Int × (List (List Int × List Int))) (fun x_ => (fun (j : Int) (o2 : List (List Int × List Int)) => ⟨[(2, ep 0), (8, em 1), (9, eo 2), (78, eo 3), (79, en (L.length : Int)), (80, en j)], [(0, some (.box 24 [.v (.int .i64 n), .own 4])), (1, some (.map .int .int pm)), (2, some (.ext (.nest 5 none 29 ptT 3 o2))), (3, some (.ar .int L)), (4, some (.ar edT E))], 6⟩) x_.1 x_.2) (fun x_ => (fun (j : Int) (o2 : List (List Int × List Int)) => 0 ≤ j ∧ j ≤ (L.length : Int) ∧ EInv E V L j ou.length o2) x_.1 x_.2) (fun x_ => (fun (j : Int) (o2 : List (List Int × List Int)) => ((L.length : Int) - j).toNat) x_.1 x_.2) (0, ou) [(0, some 0), (1, some 3), (2, some 4), (3, some 7), (4, some 6), (5, some 8)] h ⟨by omega, by omega, hF.2.2⟩ fun x_ _ _ _ hK3 hI h => ?_
 obtain ⟨j, o2⟩ := x_
 obtain ⟨j0, j1, hE⟩ := hI
 dsimp only at j0 j1 hE
 refine go0 [] h fun _ _ h => ?_
 refine go_if h (fun (q4 : j < (L.length : Int)) => ?_) (fun (q4 : ¬ (j < (L.length : Int))) => ?_)
 · obtain ⟨⟨f1, f2, f3⟩, ⟨f4, f5, f6, f7⟩, _⟩ := leav_facts hp rfl j0 q4
   obtain ⟨⟨a1, a2⟩, _⟩ := hP.at_ i0 i1 (x := (E.getD (L.getD j.toNat 0).toNat (0, 0)).1) (hP.all q2 (part_ends hp j0 q4).1)
   have n2 := hE.n
   have n3 := hE.at_ ((lkI pm (E.getD (L.getD j.toNat 0).toNat (0, 0)).1).getD 0).toNat
   refine go (pr := (Bnd j L.length) ∧ (Bnd (L.getD j.toNat 0) E.length) ∧ (kwf .int ((E.getD (L.getD j.toNat 0).toNat (0, 0)).1)) ∧ (Bnd ((lkI pm ((E.getD (L.getD j.toNat 0).toNat (0, 0)).1)).getD 0) o2.length) ∧ (((o2.getD ((lkI pm ((E.getD (L.getD j.toNat 0).toNat (0, 0)).1)).getD 0).toNat ([], [])).2).length + ([(L.getD j.toNat 0)] : List Int).length ≤ 2147483647) ∧ (Bnd ((lkI pm ((E.getD (L.getD j.toNat 0).toNat (0, 0)).1)).getD 0) o2.length) ∧ (Bnd ((lkI pm ((E.getD (L.getD j.toNat 0).toNat (0, 0)).1)).getD 0) o2.length) ∧ (Bnd ((lkI pm ((E.getD (L.getD j.toNat 0).toNat (0, 0)).1)).getD 0) o2.length) ∧ (holeP (some (((lkI pm ((E.getD (L.getD j.toNat 0).toNat (0, 0)).1)).getD 0).toNat * 2 + 1)) (((lkI pm ((E.getD (L.getD j.toNat 0).toNat (0, 0)).1)).getD 0).toNat * 2 + 1)) ∧ (InR .i64 (j + 1))) [] h ⟨bx, bx, wk, bx, ln, bx, bx, bx, rfl, r64⟩ fun _ _ h => ?_
   exact lp_ (hK3 (j + 1, (o2.set ((lkI pm ((E.getD (L.getD j.toNat 0).toNat (0, 0)).1)).getD 0).toNat ((o2.getD ((lkI pm ((E.getD (L.getD j.toNat 0).toNat (0, 0)).1)).getD 0).toNat ([], [])).1, (((o2.getD ((lkI pm ((E.getD (L.getD j.toNat 0).toNat (0, 0)).1)).getD 0).toNat ([], [])).2) ++ ([(L.getD j.toNat 0)] : List Int))))) [(0, some 0), (1, some 1), (2, some 2), (3, some 3), (4, some 4), (5, some 102406)] h ⟨by omega, by omega, hE.step hF.1 j0 q4⟩ (lt_))
 refine go0 [] h fun _ _ h => ?_
 exact out ((o2 : List ((List Int) × List Int)), ((0 : Int) : Int), ()) h (by have e1 := hE.f; rw [List.take_of_length_le (by omega)] at e1; exact pieces_ret hp e1)
def C_pieces : Con Try.prog := plain pieces_c
theorem joined_c : ConOk Try.prog 53 [(false, grT), (false, ptT)] [.bool] (fun x => inR (show Int from x.1.1)) (fun x => (joinedB (show Int from x.1.1) (show List (Int × Int) from x.1.2) (show List Int from x.2.1.1) (show List Int from x.2.1.2), ())) := by
 refine con_of Try.f53 20 [C_pieces] Try.func53 fun o x hd _ _ h => ?_
 obtain ⟨⟨n, E⟩, ⟨V, L⟩, _⟩ := x
 change Int at n
 change List (Int × Int) at E
 change List Int at V
 change List Int at L
 have hl0 : (E.length : Int) ≤ 9223372036854775807 := lenAt h 0 (t := edT) (l := E)
 have hl1 : (V.length : Int) ≤ 9223372036854775807 := lenAt h 1 (t := .int) (l := V)
 have hl2 : (L.length : Int) ≤ 9223372036854775807 := lenAt h 2 (t := .int) (l := L)
 change inR n at hd
 refine go (pr := (inR n)) [] h hd fun _ _ h => ?_
 exact out (((decide (partE n E V L = 0)) && (decide (((if partE n E V L ≠ 0 then [] else piecesF E V L).length : Int) ≤ 1)) : Bool), ()) h rfl
def C_joined : Con Try.prog := plain joined_c
theorem sub_c : ConOk Try.prog 54 [(false, grT), (false, ptT), (false, (.list .int))] [ptT] (fun x => partE (show Int from x.1.1) (show List (Int × Int) from x.1.2) (show List Int from x.2.1.1) (show List Int from x.2.1.2) = 0) (fun x => ((subV (show List Int from x.2.1.1) (show List Int from x.2.2.1), subL (show List (Int × Int) from x.1.2) (show List Int from x.2.1.2) (show List Int from x.2.2.1)), ())) := by
 refine con_of Try.f54 72 [C_in] Try.func54 fun o x hd _ _ h => ?_
 obtain ⟨⟨n, E⟩, ⟨V, L⟩, l, _⟩ := x
 change Int at n
 change List (Int × Int) at E
 change List Int at V
 change List Int at L
 change List Int at l
 have hl0 : (E.length : Int) ≤ 9223372036854775807 := lenAt h 0 (t := edT) (l := E)
 have hl1 : (V.length : Int) ≤ 9223372036854775807 := lenAt h 1 (t := .int) (l := V)
 have hl2 : (L.length : Int) ≤ 9223372036854775807 := lenAt h 2 (t := .int) (l := L)
 have hl3 : (l.length : Int) ≤ 9223372036854775807 := lenAt h 3 (t := .int) (l := l)
 change partE n E V L = 0 at hd
 have hp := hd
 obtain ⟨hr, hVr, hLr, hok⟩ := partE_0 hp
 obtain ⟨hn0, hn1, hEn, _⟩ := rightE_0 hr
 have hVn := rises_len hVr hn0
 have hLn := rises_len hLr (by omega)
 refine go0 [] h fun _ _ h => ?_
 refine go_loop (Int × List Int) (fun x_ => (fun (i : Int) (vs : List Int) => ⟨[(2, eo 0), (3, ep 1), (4, ep 2), (6, ep 3), (7, ep 4), (8, en i)], [(0, some (.ar .int l)), (1, some (.box 24 [.v (.int .i64 n), .own 5])), (2, some (.box 29 [.own 6, .own 7])), (3, some (.box 29 [.v (.slice none 0 0), .v (.slice none 0 0)])), (4, some (.box 29 [.own 8, .v (.slice none 0 0)])), (5, some (.ar edT E)), (6, some (.ar .int V)), (7, some (.ar .int L)), (8, some (.row 3 .int vs))], 9⟩) x_.1 x_.2) (fun x_ => (fun (i : Int) (vs : List Int) => 0 ≤ i ∧ i ≤ (V.length : Int) ∧ vs = (V.take i.toNat).filter (fun v => decide (v ∈ l))) x_.1 x_.2) (fun x_ => (fun (i : Int) (vs : List Int) => ((V.length : Int) - i).toNat) x_.1 x_.2) (0, []) [(0, some 3), (1, some 4), (2, some 4100), (3, some 8196), (4, some 12292), (5, some 0), (6, some 1), (7, some 2), (8, none)] h ⟨by omega, by omega, rfl⟩ fun x_ _ _ _ hK1 hI h => ?_
 obtain ⟨i, vs⟩ := x_
 obtain ⟨i0, i1, hv⟩ := hI
 dsimp only at i0 i1 hv
 have n1 : vs.length ≤ i.toNat := by rw [hv]; exact filt_len
 refine go0 [] h fun _ _ h => ?_
 refine go_if h (fun (q1 : i < (V.length : Int)) => ?_) (fun (q1 : ¬ (i < (V.length : Int))) => ?_)
 · refine go (pr := (Bnd i V.length) ∧ True) [] h ⟨bx, tv⟩ fun _ _ h => ?_
   refine go_if h (fun (q2 : (decide ((V.getD i.toNat 0) ∈ l)) = true) => ?_) (fun (q2 : (decide ((V.getD i.toNat 0) ∈ l)) = false) => ?_)
   · refine go (pr := (Bnd i V.length) ∧ (vs.length + ([(V.getD i.toNat 0)] : List Int).length ≤ 2147483647) ∧ (InR .i64 (i + 1))) [] h ⟨bx, ln, r64⟩ fun _ _ h => ?_
     exact lp_ (hK1 (i + 1, (vs ++ ([(V.getD i.toNat 0)] : List Int))) [(0, some 0), (1, some 1), (2, some 2), (3, some 3), (4, some 4), (5, some 5), (6, some 6), (7, some 7), (8, some 81929)] h ⟨by omega, by omega, by rw [hv]; exact (filt_yes i0 q1 q2).symm⟩ (lt_))
   refine go (pr := (InR .i64 (i + 1))) [] h r64 fun _ _ h => ?_
   exact lp_ (hK1 (i + 1, vs) [(0, some 0), (1, some 1), (2, some 2), (3, some 3), (4, some 4), (5, some 5), (6, some 6), (7, some 7), (8, some 8)] h ⟨by omega, by omega, by rw [hv]; exact (filt_no i0 q1 q2).symm⟩ (lt_))
 refine go0 [] h fun _ _ h => ?_
 refine go_loop (Int × List Int) (fun x_ => (fun (j : Int) (es : List Int) => ⟨[(2, eo 0), (3, ep 1), (4, ep 2), (6, ep 3), (7, ep 4), (9, en j)], [(0, some (.ar .int l)), (1, some (.box 24 [.v (.int .i64 n), .own 5])), (2, some (.box 29 [.own 6, .own 7])), (3, some (.box 29 [.v (.slice none 0 0), .v (.slice none 0 0)])), (4, some (.box 29 [.own 8, .own 9])), (5, some (.ar edT E)), (6, some (.ar .int V)), (7, some (.ar .int L)), (8, some (.row 3 .int vs)), (9, some (.row 3 .int es))], 10⟩) x_.1 x_.2) (fun x_ => (fun (j : Int) (es : List Int) => 0 ≤ j ∧ j ≤ (L.length : Int) ∧ es = (L.take j.toNat).filter (fun e => decide ((E.getD e.toNat (0, 0)).1 ∈ l) && decide ((E.getD e.toNat (0, 0)).2 ∈ l))) x_.1 x_.2) (fun x_ => (fun (j : Int) (es : List Int) => ((L.length : Int) - j).toNat) x_.1 x_.2) (0, []) [(0, some 0), (1, some 1), (2, some 2), (3, some 3), (4, some 4), (5, some 5), (6, some 6), (7, some 7), (8, some 8), (9, none)] h ⟨by omega, by omega, rfl⟩ fun x_ _ _ _ hK2 hI h => ?_
 obtain ⟨j, es⟩ := x_
 obtain ⟨j0, j1, hw⟩ := hI
 dsimp only at j0 j1 hw
 have n2 : es.length ≤ j.toNat := by rw [hw]; exact filt_len
 refine go0 [] h fun _ _ h => ?_
 refine go_if h (fun (q3 : j < (L.length : Int)) => ?_) (fun (q3 : ¬ (j < (L.length : Int))) => ?_)
 · obtain ⟨⟨f1, f2, f3⟩, ⟨f4, f5, f6, f7⟩, _⟩ := leav_facts hp rfl j0 q3
   refine go (pr := (Bnd j L.length) ∧ (Bnd (L.getD j.toNat 0) E.length) ∧ True ∧ (((decide ((E.getD (L.getD j.toNat 0).toNat (0, 0)).1 ∈ l)) = true) → True)) [] h ⟨bx, bx, tv, fun _ => trivial⟩ fun _ _ h => ?_
   refine go_if h (fun (q4 : ((decide ((E.getD (L.getD j.toNat 0).toNat (0, 0)).1 ∈ l)) = true) ∧ ((decide ((E.getD (L.getD j.toNat 0).toNat (0, 0)).2 ∈ l)) = true)) => ?_) (fun (q4 : ((decide ((E.getD (L.getD j.toNat 0).toNat (0, 0)).1 ∈ l)) = false) ∨ ((decide ((E.getD (L.getD j.toNat 0).toNat (0, 0)).2 ∈ l)) = false)) => ?_)
   · refine go (pr := (Bnd j L.length) ∧ (es.length + ([(L.getD j.toNat 0)] : List Int).length ≤ 2147483647) ∧ (InR .i64 (j + 1))) [] h ⟨bx, ln, r64⟩ fun _ _ h => ?_
     exact lp_ (hK2 (j + 1, (es ++ ([(L.getD j.toNat 0)] : List Int))) [(0, some 0), (1, some 1), (2, some 2), (3, some 3), (4, some 4), (5, some 5), (6, some 6), (7, some 7), (8, some 8), (9, some 139274)] h ⟨by omega, by omega, by rw [hw]; exact (filt_yes (p := (fun e => decide ((E.getD e.toNat (0, 0)).1 ∈ l) && decide ((E.getD e.toNat (0, 0)).2 ∈ l))) j0 q3 (and_yes q4)).symm⟩ (lt_))
   refine go (pr := (InR .i64 (j + 1))) [] h r64 fun _ _ h => ?_
   exact lp_ (hK2 (j + 1, es) [(0, some 0), (1, some 1), (2, some 2), (3, some 3), (4, some 4), (5, some 5), (6, some 6), (7, some 7), (8, some 8), (9, some 9)] h ⟨by omega, by omega, by rw [hw]; exact (filt_no (p := (fun e => decide ((E.getD e.toNat (0, 0)).1 ∈ l) && decide ((E.getD e.toNat (0, 0)).2 ∈ l))) j0 q3 (and_no q4)).symm⟩ (lt_))
 refine go0 [] h fun _ _ h => ?_
 exact out (((vs, es) : (List Int) × List Int), ()) h (by rw [List.take_of_length_le (by omega)] at hv hw; rw [hv, hw]; rfl)
def C_sub : Con Try.prog := plain sub_c
section
variable {P : Program} {T' : Stab} {v : Value}
def stR0 (ags : List (Bool × Ty)) (x : ArgV ags) (raw : List Value) : St2 := ⟨envOf 0 ((argsSy ags x 0).1 ++ raw.map fun u => .one (scOf u)), (argsSy ags x 0).2, (argsSy ags x 0).2.length⟩
theorem con_ofR {f : FuncId} (fn : Func) (n : Nat) (T : List (Con P)) {ags : List (Bool × Ty)} {rs : List Ty} {fx : Vals rs} (raw : List Value) (o : Orig) (vs : List Value) (x : ArgV ags) (hx : ArgOk o.S (· < o.w.heap.size) o.w ags vs x) (hf : P.funcs[f]? = some fn)
   (k : ∀ a w, Okx (OrgG.of o) n (stR0 ags x raw) a w → At P T (fn.body.getD .skip) (bodyPost P fn (Giv o fun S v w' => RetOk S w' rs v fx)) [.run []] a w)
   (hb : fn.body.isSome = true := by kernel_rfl) (hn : fn.ntmps = n := by kernel_rfl) (hl : decide (ags.length + raw.length ≤ n) = true := by kernel_rfl) : Calls P f (vs ++ raw).toArray o.w (Giv o fun S v w' => RetOk S w' rs v fx) := by
 have hlen := argOk_len hx
 refine enter fn n hf (fun a ha => ?_) hb hn (by rw [List.length_append, hlen]; exact hl)
 obtain ⟨A, h1, h2, h3, h5, h4⟩ := argsSy_ok (o := OrgG.of o) ags x vs 0 asg0 (fun _ => False) (argOk_up (fun k hk => ⟨hk, fun q => q⟩) hx) fun _ _ q => q
 have hall : ((argsSy ags x 0).1 ++ raw.map fun u => Sy.one (scOf u)).map (Sy.den A) = vs ++ raw := by
   rw [List.map_append, h2, List.map_map]
   congr 1
   exact (List.map_congr_left fun u _ => scOf_den A u).trans (List.map_id raw)
 have hgood : ∀ y ∈ (argsSy ags x 0).1 ++ raw.map fun u => Sy.one (scOf u), y.all (FU (fun _ => False) (argsSy ags x 0).2) ∧ y.good A := fun y hy => by
   rcases List.mem_append.1 hy with hy | hy
   · exact h4 y hy
   obtain ⟨u, _, rfl⟩ := List.mem_map.1 hy
   exact ⟨scOf_all _ u, scOf_good A u⟩
 have hslot : ∀ t e, stE (stR0 ags x raw) t = some e → e.ch = [] ∧ ∃ y, ((argsSy ags x 0).1 ++ raw.map fun u => Sy.one (scOf u))[t]? = some y ∧ e = ⟨[], y⟩ := fun t e he => by
   obtain ⟨_, y, q1, q2⟩ := envOf_get he
   exact ⟨by rw [q2], y, by simpa using q1, q2⟩
 have H0 : OkF (OrgG.of o) n A o.S (fun _ => False) (fun _ => none) (fun _ => none) a o.w := ⟨ha.1, ha.2.1, fun _ _ q => (by cases q), fun _ _ q => (by cases q), fun _ _ q => (by cases q), Frm.start (OrgG.of o), fun _ _ q => (by cases q), ⟨fun _ q => q.elim, fun _ q => q.elim⟩⟩
 have H1 := H0.ro (Agr.refl _ _) h3
 have hle : ∀ j, FU (fun _ => False) (argsSy ags x 0).2 j → j < (argsSy ags x 0).2.length := fun j hj => by
   rcases hj with hj | ⟨z, hz⟩
   · exact hj.elim
   have := h5 _ hz; simpa using this
 have hfin : Okx (OrgG.of o) n (stR0 ags x raw) a o.w := by
   refine ⟨⟨A, o.S, H1.size, H1.nodef, fun t e he => ?_, fun t e he _ => ?_, fun j y hj => ?_, H1.frm, H1.args, ⟨fun _ q => q.elim, fun _ q => q.elim⟩⟩, fun t e he => (hslot t e he).1, fun _ q => q⟩
   · obtain ⟨_, y, q1, rfl⟩ := hslot t e he
     have hv : (vs ++ raw)[t]? = some (y.den A) := by rw [← hall, List.getElem?_map, q1]; rfl
     have htl := (List.getElem?_eq_some_iff.1 hv).1
     refine ha.2.2 ⟨t, [], y.den A⟩ (List.mem_map.2 ⟨(t, y.den A), ?_, rfl⟩)
     refine List.mem_iff_getElem?.2 ⟨t, ?_⟩
     rw [List.getElem?_zip_eq_some]
     exact ⟨by rw [List.getElem?_range htl], hv⟩
   · obtain ⟨_, y, q1, rfl⟩ := hslot t e he
     have := hgood y (List.mem_of_getElem? q1)
     exact ⟨Sy.mono hle this.1, this.2⟩
   have := H1.rall j y hj
   exact ⟨hle j this.1, R2.mono hle this.2.1, this.2.2⟩
 have := k a o.w hfin
 have this : (sub (fn.body.getD .skip) []).wp P (post P (fn.body.getD .skip) (bodyPost P fn (Giv o fun S v w' => RetOk S w' rs v fx)) []) a o.w := this.get
 exact this
def org0 (w : World) : Orig := ⟨w, fun _ => False, fun _ h => h.elim⟩
theorem ans_bool {f : FuncId} {args : Array Value} {w : World} {b : Bool} (h : Calls P f args w (Giv (org0 w) fun S v w' => RetOk S w' [.bool] v ((b, ()) : Vals [.bool]))) : Calls P f args w (Ans (.bool b) w) :=
 h.mono fun e w' ⟨v, h1, h2, h3⟩ => by
   obtain ⟨cs, q1, q2⟩ : Rd (Since (org0 w) w') w' v (show Bool from b) := h2
   have q1 : cs = [.bool b] := q1
   subst q1
   exact ⟨by rw [h1, q2]; rfl, h3⟩
theorem gr_rd {w : World} {ve : Value} {n : Int} {E : List (Int × Int)} (h : Rd T' w ve E) : Rd T' w (.agg #[.int .i64 n, ve]) ((n, E) : Int × List (Int × Int)) :=
 ⟨[.int .i64 n, ve], ⟨[.int .i64 n], [ve], rfl, rfl, ve, rfl, rd_slice h⟩, rfl⟩
theorem pt_rd {w : World} {vv vl : Value} {V L : List Int} (hV : Rd T' w vv V) (hL : Rd T' w vl L) : Rd T' w (.agg #[vv, vl]) ((V, L) : List Int × List Int) :=
 ⟨[vv, vl], ⟨[vv], [vl], rfl, ⟨vv, rfl, rd_slice hV⟩, vl, rfl, rd_slice hL⟩, rfl⟩
end
end Go.Proofs.Ytahonnlgkmimlaa
namespace Go.Proofs.Ytahonnlgkmimlaa
open Go.RowKit
open Go.Proofs.Ytahonnlgkmimlaa.Deep
section
variable {E : List (Int × Int)} {V L C : List Int} {n : Int}
structure Cls (E : List (Int × Int)) (L C : List Int) : Prop where
 sub : ∀ e ∈ C, e ∈ L
 nl : ∀ e ∈ C, ¬ (grE E L).lp e
 tog : ∀ e ∈ C, ∀ f ∈ C, ∀ z, Tog (grE E L) z e f
 all : ∀ e ∈ C, ∀ f ∈ L, ¬ (grE E L).lp f → (∀ z, Tog (grE E L) z e f) → f ∈ C
def Tch (E : List (Int × Int)) (C : List Int) (x : Int) : Prop := ∃ e ∈ C, (grE E C).inc e x
theorem Cls.close (h : Cls E L C) {x x1 y g : Int} (hx : Tch E C x) (hg : g ∈ L) (hj : (grE E L).joins g x x1) (hne : x1 ≠ x) (hr : (grE E L).Rch (· ≠ x) x1 y) (hy : Tch E C y) (hyx : y ≠ x) : g ∈ C := by
 obtain ⟨ex, hex, ix⟩ := hx
 obtain ⟨ey, hey, iy⟩ := hy
 have ix : (grE E L).inc ex x := ix
 have iy : (grE E L).inc ey y := iy
 refine h.all ex hex g hg (fun hl => ?_) fun z => ?_
 · have hl : eA E g = eB E g := hl
   rcases hj with ⟨h1, h2⟩ | ⟨h1, h2⟩
   · have h1 : eA E g = x := h1
     have h2 : eB E g = x1 := h2
     omega
   have h1 : eA E g = x1 := h1
   have h2 : eB E g = x := h2
   omega
 by_cases hz : x = z
 · subst hz
   obtain ⟨a, b, a1, a2, a3, a4, a5⟩ := h.tog ex hex ey hey x
   have r1 := rch_at (h.sub ey hey) a1 a3 a4 a5 iy hyx
   exact ⟨a, x1, a1, a2, hj.right, hne, r1.trans hr.symm⟩
 exact ⟨x, x, ix, hz, hj.left, hz, .refl hz⟩
theorem rch_tch {P : Int → Prop} {a z : Int} (h : (grE E C).Rch P a z) (ha : Tch E C a) : Tch E C z := by
 cases h with
 | refl _ => exact ha
 | step _ hadj _ => obtain ⟨f, hf, hj⟩ := hadj; exact ⟨f, hf, hj.right⟩
theorem Cls.inside (h : Cls E L C) {v a b : Int} (ha : Tch E C a) (hr : (grE E L).Rch (· ≠ v) a b) (hb : Tch E C b) : (grE E C).Rch (· ≠ v) a b := by
 have key : ∀ {z : Int}, (grE E L).Rch (· ≠ v) a z → (grE E C).Rch (· ≠ v) a z ∨ (¬ Tch E C z ∧ ∃ x g x1, (grE E C).Rch (· ≠ v) a x ∧ g ∈ L ∧ g ∉ C ∧ (grE E L).joins g x x1 ∧ x1 ≠ x ∧ (grE E L).Rch (· ≠ x) x1 z) := by
   intro z hz
   induction hz with
   | refl h1 => exact .inl (.refl h1)
   | @step z z' _ hadj hz' ih =>
     obtain ⟨f, hf, hj⟩ := hadj
     rcases ih with h1 | ⟨h1, x, g, x1, h2, h3, h4, h5, h6, h7⟩
     · by_cases hfC : f ∈ C
       · exact .inl (.step h1 ⟨f, hfC, hj⟩ hz')
       by_cases e : z' = z
       · subst e; exact .inl h1
       by_cases ht : Tch E C z'
       · exact (hfC (h.close (rch_tch h1 ha) hf hj e (.refl e) ht e)).elim
       exact .inr ⟨ht, z, f, z', h1, hf, hfC, hj, e, .refl e⟩
     by_cases e : z' = x
     · subst e; exact .inl h2
     have h8 : (grE E L).Rch (· ≠ x) x1 z' := .step h7 ⟨f, hf, hj⟩ e
     by_cases ht : Tch E C z'
     · exact (h4 (h.close (rch_tch h2 ha) h3 h5 h6 h8 ht e)).elim
     exact .inr ⟨ht, x, g, x1, h2, h3, h4, h5, h6, h8⟩
 rcases key hr with h1 | ⟨h1, _⟩
 · exact h1
 exact (h1 hb).elim
theorem Cls.conn (h : Cls E L C) {v a b : Int} (ha : Tch E C a) (hb : Tch E C b) (hav : a ≠ v) (hbv : b ≠ v) : (grE E C).Rch (· ≠ v) a b := by
 obtain ⟨ea, hea, ia⟩ := ha
 obtain ⟨eb, heb, ib⟩ := hb
 obtain ⟨c, d, c1, c2, c3, c4, c5⟩ := h.tog ea hea eb heb v
 have r1 := rch_at (h.sub eb heb) c1 c3 c4 c5 ib hbv
 have r2 : (grE E L).Rch (· ≠ v) a c := ends_rch (G := grE E L) (h.sub ea hea) ia c1 hav c2
 exact h.inside ⟨ea, hea, ia⟩ (r2.trans r1) ⟨eb, heb, ib⟩
theorem class_cls (hp : partE n E V L = 0) {e : Int} (he : e ∈ L) : (classL E V L e = [e] ∧ (grE E L).lp e) ∨ Cls E L (classL E V L e) := by
 rcases (class_all hp he).2 with h | ⟨h1, h2⟩
 · exact .inl h
 refine .inr ⟨fun f hf => (class_mem.1 hf).1, h1, h2, fun f hf g hg lg ht => ?_⟩
 have hfL := (class_mem.1 hf).1
 have := class_tog hp hfL hg (h1 f hf) lg ht
 rw [(class_all hp he).1 f hf] at this
 exact this
theorem tch_iff {x : Int} (hp : partE n E V L = 0) {e : Int} (he : e ∈ L) : x ∈ touchL E (classL E V L e) n ↔ Tch E (classL E V L e) x := by
 rw [mem_touchL]
 constructor
 · rintro ⟨_, f, hf, ht⟩; exact ⟨f, hf, ht⟩
 rintro ⟨f, hf, ht⟩
 obtain ⟨_, hV, _, hin⟩ := part_iff.1 hp
 exact ⟨(rises_iff.1 hV).2 x (hin f (class_mem.1 hf).1 x ht), f, hf, ht⟩
theorem block_of_ (hp : partE n E V L = 0) {e : Int} (he : e ∈ L) : (touchL E (classL E V L e) n, classL E V L e) ∈ blocksL n E V L := by
 have hc := class_self (E := E) (V := V) he
 have hne : classL E V L e ≠ [] := fun q => by rw [q] at hc; cases hc
 have hm : (classL E V L e).getD 0 0 ∈ classL E V L e := by
   cases hq : classL E V L e with
   | nil => exact (hne hq).elim
   | cons x l => exact List.mem_cons_self
 have hcl := (class_all hp he).1 _ hm
 refine List.mem_map.2 ⟨(classL E V L e).getD 0 0, List.mem_filter.2 ⟨(class_mem.1 hm).1, ?_⟩, by rw [hcl]⟩
 rw [hcl]; exact decide_eq_true rfl
theorem block_part (hp : partE n E V L = 0) {e : Int} (he : e ∈ L) : partE n E (touchL E (classL E V L e) n) (classL E V L e) = 0 := by
 obtain ⟨hr, _, _, _⟩ := part_iff.1 hp
 obtain ⟨h1, h2, _, _⟩ := block_rises hp (block_of_ hp he)
 exact part_iff.2 ⟨hr, h1, h2, fun f hf x hx => (tch_iff hp he).2 ⟨f, hf, hx⟩⟩
theorem block_class (hp : partE n E V L = 0) {e : Int} (he : e ∈ L) : ∀ f ∈ classL E V L e, classL E (touchL E (classL E V L e) n) (classL E V L e) f = classL E V L e := by
 intro f hf
 have hpb := block_part hp he
 have hL := (part_iff.1 hp).2.2.1
 unfold classL
 rw [List.filter_eq_self]
 intro g hg
 show togB E (touchL E (classL E V L e) n) (classL E V L e) f g = true
 by_cases hfg : f = g
 · subst hfg; exact togB_self
 rcases class_cls hp he with ⟨h1, _⟩ | h
 · have hg : g ∈ classL E V L e := hg
   rw [h1] at hf hg
   exact (hfg ((List.mem_singleton.1 hf).trans (List.mem_singleton.1 hg).symm)).elim
 have hg : g ∈ classL E V L e := hg
 refine togB_iff.2 fun v _ => (apart_iff hf hg hfg (h.nl f hf) (h.nl g hg)).2 ?_
 have other : ∀ k ∈ classL E V L e, ∃ x, (grE E (classL E V L e)).inc k x ∧ x ≠ v := fun k hk => by
   have hl : ¬ eA E k = eB E k := h.nl k hk
   by_cases q : eA E k = v
   · exact ⟨eB E k, .inr rfl, fun z => hl (q.trans z.symm)⟩
   exact ⟨eA E k, .inl rfl, q⟩
 obtain ⟨a, a1, a2⟩ := other f hf
 obtain ⟨b, b1, b2⟩ := other g hg
 exact ⟨a, b, a1, a2, b1, b2, h.conn ⟨f, hf, a1⟩ ⟨g, hg, b1⟩ a2 b2⟩
theorem filter_head : ∀ {l : List Int}, l.Nodup → l ≠ [] → (l.filter fun e => decide (l.getD 0 0 = e)) = [l.getD 0 0]
 | [], _, h => (h rfl).elim
 | x :: l, hn, _ => by
   rw [List.nodup_cons] at hn
   show ((x :: l).filter fun e => decide (x = e)) = [x]
   rw [List.filter_cons, if_pos (by simp), List.filter_eq_nil_iff.2]
   intro y hy
   simp only [decide_eq_true_eq]
   exact fun q => hn.1 (by rw [q]; exact hy)
theorem block_self (hp : partE n E V L = 0) {b : List Int × List Int} (hb : b ∈ blocksL n E V L) : partE n E b.1 b.2 = 0 ∧ blocksE n E b.1 b.2 = [b] ∧ cutsE n E b.1 b.2 = [] ∧ solidB n E b.1 b.2 = true := by
 obtain ⟨e, he, _, rfl⟩ := block_at hp hb
 have hpb := block_part hp he
 have hC := (part_iff.1 hpb).2.2.1
 have hself := class_self (E := E) (V := V) he
 have hbl : blocksL n E (touchL E (classL E V L e) n) (classL E V L e) = [(touchL E (classL E V L e) n, classL E V L e)] := by
   unfold blocksL
   have hcl := block_class hp he
   generalize hCe : classL E V L e = C at *
   have e1 : (C.filter fun e => decide ((classL E (touchL E C n) C e).getD 0 0 = e)) = C.filter fun e => decide (C.getD 0 0 = e) := List.filter_congr fun f hf => by rw [hcl f hf]
   rw [e1, filter_head (asc_nodup (rises_iff.1 hC).1) (fun q => by rw [q] at hself; cases hself)]
   have hm : C.getD 0 0 ∈ C := by
     cases C with
     | nil => cases hself
     | cons x l => exact List.mem_cons_self
   simp only [List.map_cons, List.map_nil]
   rw [hcl _ hm]
 have hE : blocksE n E (touchL E (classL E V L e) n) (classL E V L e) = [(touchL E (classL E V L e) n, classL E V L e)] := by
   unfold blocksE; rw [if_neg (fun q => q hpb), hbl]
 refine ⟨hpb, hE, ?_, ?_⟩
 · unfold cutsE
   rw [if_neg (fun q => q hpb), hbl]
   unfold cutsL
   rw [List.filter_eq_nil_iff]
   intro x _
   have : (hasIn [(touchL E (classL E V L e) n, classL E V L e)] x).length ≤ 1 := List.length_filter_le _ _
   simp only [decide_eq_true_eq]; omega
 unfold solidB
 rw [hE]
 simp [hpb]
theorem pieces_len {E : List (Int × Int)} : ∀ (L : List Int) (pm : List (Int × Int)) (o : PLs), (L.foldl (estep E pm) o).length = o.length
 | [], _, _ => rfl
 | e :: L, pm, o => by rw [List.foldl_cons, pieces_len L]; exact pieE_len _ _ _
theorem pstep_stay {M : List (Int × List Int)} : ∀ {l : List Int} {s : List (Int × Int) × PLs}, (∀ x ∈ l, (lkI s.1 x).isSome = true) → (l.foldl (pstep E M) s).2.length = s.2.length
 | [], _, _ => rfl
 | x :: l, s, h => by
   have e : pstep E M s x = (s.1, pieV s.2 ((lkI s.1 x).getD 0) x) := by unfold pstep; rw [if_pos (h x List.mem_cons_self)]
   rw [List.foldl_cons, e]
   exact (pstep_stay (s := (s.1, pieV s.2 ((lkI s.1 x).getD 0) x)) fun y hy => h y (List.mem_cons_of_mem _ hy)).trans (pieV_len _ _ _)
theorem pieces_conn (hp : partE n E V L = 0) (hc : ∀ a ∈ V, ∀ b ∈ V, (grE E L).Rch (· ≠ -1) a b) : (piecesF E V L).length ≤ 1 := by
 unfold piecesF
 rw [pieces_len]
 have key : ∀ W : List Int, (∀ x ∈ W, x ∈ V) → (W.foldl (pstep E (leavF E L)) ([], [])).2.length ≤ 1 := fun W hW => by
   cases W with
   | nil => exact Nat.zero_le _
   | cons a W =>
     have e : pstep E (leavF E L) ([], []) a = (keysPut [] (reachF E (leavF E L) a (-1)) 0, pieV ([] ++ [([], [])]) 0 a) := by
       unfold pstep; rw [if_neg (by intro q; cases q)]; rfl
     rw [List.foldl_cons, e, pstep_stay fun x hx => ?_]
     · show (pieV ([([], [])] : PLs) 0 a).length ≤ 1
       rw [pieV_len]; exact Nat.le_refl _
     show (lkI (keysPut [] (reachF E (leavF E L) a (-1)) 0) x).isSome = true
     rw [keysPut_look, if_pos (reach_rch hp (hc a (hW a List.mem_cons_self) x (hW x (List.mem_cons_of_mem _ hx))))]; rfl
 exact key V fun x hx => hx
theorem joined_conn (hp : partE n E V L = 0) (hc : ∀ a ∈ V, ∀ b ∈ V, (grE E L).Rch (· ≠ -1) a b) : joinedB n E V L = true := by
 have := pieces_conn hp hc
 unfold joinedB
 rw [if_neg (fun q => q hp), hp, Bool.and_eq_true, decide_eq_true_eq, decide_eq_true_eq]
 exact ⟨rfl, by omega⟩
theorem block_joined (hp : partE n E V L = 0) {b : List Int × List Int} (hb : b ∈ blocksL n E V L) : joinedB n E b.1 b.2 = true := by
 obtain ⟨e, he, _, rfl⟩ := block_at hp hb
 have hpb := block_part hp he
 obtain ⟨_, hV, _, _⟩ := part_iff.1 hpb
 refine joined_conn hpb fun a ha b hb => ?_
 have ha0 := ((rises_iff.1 hV).2 a ha).1
 have hb0 := ((rises_iff.1 hV).2 b hb).1
 have ta := (tch_iff hp he).1 ha
 have tb := (tch_iff hp he).1 hb
 rcases class_cls hp he with ⟨h1, h2⟩ | h
 · obtain ⟨f, hf, if_⟩ := ta
   obtain ⟨g, hg, ig⟩ := tb
   have hl : eA E e = eB E e := h2
   rw [h1] at hf hg
   rw [List.mem_singleton.1 hf] at if_
   rw [List.mem_singleton.1 hg] at ig
   have if_ : eA E e = a ∨ eB E e = a := if_
   have ig : eA E e = b ∨ eB E e = b := ig
   have : a = b := by omega
   subst this
   exact .refl (by omega)
 exact h.conn ta tb (by omega) (by omega)
theorem block_but (hp : partE n E V L = 0) {b : List Int × List Int} (hb : b ∈ blocksL n E V L) {v : Int} {r : List Int} (hr : ∀ x, x ∈ r ↔ x ∈ b.1 ∧ x ≠ v) :
   joinedB n E (subV b.1 r) (subL E b.2 r) = true := by
 obtain ⟨e, he, _, rfl⟩ := block_at hp hb
 have hpb := block_part hp he
 obtain ⟨hR, hV, hL, hin⟩ := part_iff.1 hpb
 have mV : ∀ {x : Int}, x ∈ subV (touchL E (classL E V L e) n) r ↔ x ∈ touchL E (classL E V L e) n ∧ x ≠ v := fun {x} => by
   unfold subV
   rw [List.mem_filter, decide_eq_true_eq, hr]
   exact ⟨fun h => h.2, fun h => ⟨h.1, h⟩⟩
 have mL : ∀ {f : Int}, f ∈ subL E (classL E V L e) r ↔ f ∈ classL E V L e ∧ eA E f ≠ v ∧ eB E f ≠ v := fun {f} => by
   unfold subL
   rw [List.mem_filter, Bool.and_eq_true, decide_eq_true_eq, decide_eq_true_eq, hr, hr]
   constructor
   · rintro ⟨h1, ⟨_, h2⟩, _, h3⟩; exact ⟨h1, h2, h3⟩
   rintro ⟨h1, h2, h3⟩; exact ⟨h1, ⟨hin f h1 _ (.inl rfl), h2⟩, hin f h1 _ (.inr rfl), h3⟩
 have hps : partE n E (subV (touchL E (classL E V L e) n) r) (subL E (classL E V L e) r) = 0 := by
   refine part_iff.2 ⟨hR, rises_sub ((rises_iff.1 hV).1.sublist List.filter_sublist) hV fun x hx => (mV.1 hx).1, rises_sub ((rises_iff.1 hL).1.sublist List.filter_sublist) hL fun x hx => (mL.1 hx).1, fun f hf x hx => ?_⟩
   obtain ⟨h1, h2, h3⟩ := mL.1 hf
   refine mV.2 ⟨hin f h1 x hx, ?_⟩
   rcases hx with rfl | rfl
   · exact h2
   exact h3
 refine joined_conn hps fun a ha b hb => ?_
 obtain ⟨ha, hav⟩ := mV.1 ha
 obtain ⟨hb, hbv⟩ := mV.1 hb
 have ha0 := ((rises_iff.1 hV).2 a ha).1
 have hb0 := ((rises_iff.1 hV).2 b hb).1
 have ta := (tch_iff hp he).1 ha
 have tb := (tch_iff hp he).1 hb
 rcases class_cls hp he with ⟨h1, h2⟩ | h
 · obtain ⟨f, hf, if_⟩ := ta
   obtain ⟨g, hg, ig⟩ := tb
   have hl : eA E e = eB E e := h2
   rw [h1] at hf hg
   rw [List.mem_singleton.1 hf] at if_
   rw [List.mem_singleton.1 hg] at ig
   have if_ : eA E e = a ∨ eB E e = a := if_
   have ig : eA E e = b ∨ eB E e = b := ig
   have : a = b := by omega
   subst this
   exact .refl (by omega)
 have hr := h.conn ta tb hav hbv
 have go : ∀ {z : Int}, (grE E (classL E V L e)).Rch (· ≠ v) a z → (grE E (subL E (classL E V L e) r)).Rch (· ≠ -1) a z := fun {z} hz => by
   induction hz with
   | refl _ => exact .refl (by omega)
   | @step y z h1 hadj hz ih =>
     obtain ⟨f, hf, hj⟩ := hadj
     have hyv := h1.last
     have hz0 : z ∈ touchL E (classL E V L e) n := (tch_iff hp he).2 ⟨f, hf, hj.right⟩
     have := ((rises_iff.1 hV).2 z hz0).1
     refine .step ih ⟨f, mL.2 ⟨hf, ?_, ?_⟩, hj⟩ (by omega)
     · rcases hj.of (z := eA E f) (.inl rfl) with q | q
       · rw [q]; exact hyv
       rw [q]; exact hz
     rcases hj.of (z := eB E f) (.inr rfl) with q | q
     · rw [q]; exact hyv
     rw [q]; exact hz
 exact go hr
end
def blkAt (n : Int) (E : List (Int × Int)) (V L : List Int) (c : Int) : List Int × List Int := (blocksE n E V L).getD (c % ((blocksE n E V L).length : Int)).toNat ([], [])
theorem blk_in {n c : Int} {E : List (Int × Int)} {V L : List Int} (hp : partE n E V L = 0) (hl : ¬ ((blocksE n E V L).length : Int) = 0) : blkAt n E V L c ∈ blocksL n E V L := by
 have e : blocksE n E V L = blocksL n E V L := by unfold blocksE; rw [if_neg (fun q => q hp)]
 unfold blkAt
 rw [e] at hl ⊢
 have h1 := Int.emod_nonneg c hl
 have h2 := Int.emod_lt_of_pos c (show 0 < ((blocksL n E V L).length : Int) by omega)
 have hi : (c % ((blocksL n E V L).length : Int)).toNat < (blocksL n E V L).length := by omega
 rw [List.getD_eq_getElem?_getD, List.getElem?_eq_getElem hi]
 exact List.getElem_mem _
abbrev butI (l : List Int) (i k : Int) : List Int := (l.take k.toNat).filter fun x => decide (x ≠ l.getD i.toNat 0)
theorem getD_ne {l : List Int} {n i k : Int} (h : risesP l n) (i0 : 0 ≤ i) (i1 : i < (l.length : Int)) (k0 : 0 ≤ k) (k1 : k < (l.length : Int)) (hne : ¬ k = i) : l.getD k.toNat 0 ≠ l.getD i.toNat 0 := by
 rcases Int.lt_or_gt_of_ne hne with q | q
 · have := rises_lt h (show k.toNat < i.toNat by omega) (by omega); omega
 have := rises_lt h (show i.toNat < k.toNat by omega) (by omega); omega
theorem butI_mem {l : List Int} {i : Int} {k : Int} (h : ¬ k < (l.length : Int)) (x : Int) : x ∈ butI l i k ↔ x ∈ l ∧ x ≠ l.getD i.toNat 0 := by
 unfold butI
 rw [List.take_of_length_le (by omega), List.mem_filter, decide_eq_true_eq]
theorem block_vlen {n : Int} {E : List (Int × Int)} {V L : List Int} (hp : partE n E V L = 0) {b : List Int × List Int} (hb : b ∈ blocksL n E V L) : risesP b.1 n ∧ (b.1.length : Int) ≤ 1024 := by
 have h1 := (block_rises hp hb).1
 obtain ⟨h2, h3, _, _⟩ := rightE_0 (partE_0 hp).1
 have := rises_len h1 h2
 exact ⟨h1, by omega⟩
theorem blockSolid_any (n : Int) (vE : Value) (E : List (Int × Int)) (vV vL : Value) (V L : List Int) (c : Int) (w : World) (hn : inR n) (gE : Rd (· < w.heap.size) w vE E) (gV : Rd (· < w.heap.size) w vV V) (gL : Rd (· < w.heap.size) w vL L) (hc : 0 ≤ c ∧ c ≤ 255) : Calls Try.prog 11 [.agg #[.int .i64 n, vE], .agg #[vV, vL], .int .u8 c].toArray w (Ans (.bool true) w) := by
 refine ans_bool (con_ofR Try.f11 102 [C_awakeB, C_blocks, C_cuts, C_joined, C_small, C_solid, C_sub] (ags := [(false, grT), (false, ptT)]) (rs := [.bool]) [.int .u8 c] (org0 w) [.agg #[.int .i64 n, vE], .agg #[vV, vL]] ((n, E), (V, L), ()) ⟨gr_rd gE, pt_rd gV gL, tv⟩ Try.func11 fun _ _ h => ?_)
 have hl0 : (E.length : Int) ≤ 9223372036854775807 := lenAt h 0 (t := edT) (l := E)
 have hl1 : (V.length : Int) ≤ 9223372036854775807 := lenAt h 1 (t := .int) (l := V)
 have hl2 : (L.length : Int) ≤ 9223372036854775807 := lenAt h 2 (t := .int) (l := L)
 refine go (pr := True ∧ ((true = true) → (inR n))) [] h ⟨tv, fun _ => hn⟩ fun _ _ h => ?_
 refine go_if h (fun (q1 : (true = false) ∨ (((decide (smallI n E V L = 1) && decide ((L.length : Int) ≤ 20)) && decide ((V.length : Int) ≤ 20)) = false)) => ?_) (fun (q1 : (true = true) ∧ (((decide (smallI n E V L = 1) && decide ((L.length : Int) ≤ 20)) && decide ((V.length : Int) ≤ 20)) = true)) => ?_)
 · refine go (pr := True) [] h tv fun _ _ h => ?_
   exact out ((true : Bool), ()) h rfl
 refine go (pr := (inR n)) [] h hn fun _ _ h => ?_
 refine go_if h (fun (q2 : (¬ (partE n E V L = 0)) ∨ (((blocksE n E V L).length : Int) = 0)) => ?_) (fun (q2 : (partE n E V L = 0) ∧ (¬ (((blocksE n E V L).length : Int) = 0))) => ?_)
 · refine go0 [] h fun _ _ h => ?_
   exact out ((true : Bool), ()) h rfl
 have hp := q2.1
 have hl := q2.2
 have hB := blk_in (c := c) hp hl
 obtain ⟨b1, _, b3, b4⟩ := block_self hp hB
 have b5 := block_joined hp hB
 obtain ⟨hB1, hBl⟩ := block_vlen hp hB
 have p1 := Int.emod_nonneg c hl
 have p2 := Int.emod_lt_of_pos c (show 0 < ((blocksE n E V L).length : Int) by omega)
 refine go (pr := (InR .i64 c) ∧ (0 ≤ c ∧ 0 < ((blocksE n E V L).length : Int)) ∧ (Bnd (c % ((blocksE n E V L).length : Int)) (blocksE n E V L).length) ∧ (inR n) ∧ (inR n) ∧ (((((solidB n E ((blkAt n E V L c).1) ((blkAt n E V L c).2)) = true) ∧ (partE n E ((blkAt n E V L c).1) ((blkAt n E V L c).2) = 0)) ∧ (¬ ((0 : Int) < ((cutsE n E ((blkAt n E V L c).1) ((blkAt n E V L c).2)).length : Int)))) → (inR n))) [] h ⟨r64, ⟨by omega, by omega⟩, bx, hn, hn, fun _ => hn⟩ fun _ _ h => ?_
 refine go_if h (fun (q3 : ((((solidB n E ((blkAt n E V L c).1) ((blkAt n E V L c).2)) = false) ∨ (¬ (partE n E ((blkAt n E V L c).1) ((blkAt n E V L c).2) = 0))) ∨ ((0 : Int) < ((cutsE n E ((blkAt n E V L c).1) ((blkAt n E V L c).2)).length : Int))) ∨ ((joinedB n E ((blkAt n E V L c).1) ((blkAt n E V L c).2)) = false)) => ?_) (fun (q3 : ((((solidB n E ((blkAt n E V L c).1) ((blkAt n E V L c).2)) = true) ∧ (partE n E ((blkAt n E V L c).1) ((blkAt n E V L c).2) = 0)) ∧ (¬ ((0 : Int) < ((cutsE n E ((blkAt n E V L c).1) ((blkAt n E V L c).2)).length : Int)))) ∧ ((joinedB n E ((blkAt n E V L c).1) ((blkAt n E V L c).2)) = true)) => ?_)
 · exact absurd q3 (by rw [b4, b1, b3, b5]; simp)
 refine go0 [] h fun _ _ h => ?_
 refine go_loop (Int) (fun i => ⟨[(3, ep 0), (9, ep 1), (12, en i)], [(0, some (.box 24 [.v (.int .i64 n), .own 2])), (1, some (.box 29 [.own 3, .own 4])), (2, some (.ar edT E)), (3, some (.ro .int ((blkAt n E V L c).1))), (4, some (.ro .int ((blkAt n E V L c).2)))], 5⟩) (fun i => 0 ≤ i ∧ i ≤ ((blkAt n E V L c).1.length : Int)) (fun i => (((blkAt n E V L c).1.length : Int) - i).toNat) (0) [(0, some 3), (1, some 139267), (2, some 0), (3, some 135171), (4, some 135172)] h ⟨by omega, by omega⟩ fun i _ _ _ hK1 hI h => ?_
 obtain ⟨i0, i1⟩ := hI
 refine go0 [] h fun _ _ h => ?_
 refine go_if h (fun (q4 : i < (((blkAt n E V L c).1).length : Int)) => ?_) (fun (q4 : ¬ (i < (((blkAt n E V L c).1).length : Int))) => ?_)
 · refine go0 [] h fun _ _ h => ?_
   refine go_loop (Int × List Int) (fun x_ => (fun (k : Int) (rs : List Int) => ⟨[(3, ep 0), (9, ep 1), (12, en i), (13, eo 2), (14, en k)], [(0, some (.box 24 [.v (.int .i64 n), .own 3])), (1, some (.box 29 [.own 4, .own 5])), (2, some (.row 3 .int rs)), (3, some (.ar edT E)), (4, some (.ro .int ((blkAt n E V L c).1))), (5, some (.ro .int ((blkAt n E V L c).2)))], 6⟩) x_.1 x_.2) (fun x_ => (fun (k : Int) (rs : List Int) => 0 ≤ k ∧ k ≤ ((blkAt n E V L c).1.length : Int) ∧ rs = butI (blkAt n E V L c).1 i k) x_.1 x_.2) (fun x_ => (fun (k : Int) (rs : List Int) => (((blkAt n E V L c).1.length : Int) - k).toNat) x_.1 x_.2) (0, []) [(0, some 0), (1, some 1), (2, none), (3, some 2), (4, some 3), (5, some 4)] h ⟨by omega, by omega, rfl⟩ fun x_ _ _ _ hK2 hI h => ?_
   obtain ⟨k, rs⟩ := x_
   obtain ⟨k0, k1, hrs⟩ := hI
   dsimp only at k0 k1 hrs
   have nr : rs.length ≤ k.toNat := by rw [hrs]; exact filt_len
   refine go0 [] h fun _ _ h => ?_
   refine go_if h (fun (q5 : k < (((blkAt n E V L c).1).length : Int)) => ?_) (fun (q5 : ¬ (k < (((blkAt n E V L c).1).length : Int))) => ?_)
   · refine go0 [] h fun _ _ h => ?_
     refine go_if h (fun (q6 : ¬ (k = i)) => ?_) (fun (q6 : k = i) => ?_)
     · refine go (pr := (Bnd k ((blkAt n E V L c).1).length) ∧ (rs.length + ([(((blkAt n E V L c).1).getD k.toNat 0)] : List Int).length ≤ 2147483647) ∧ (InR .i64 (k + 1))) [] h ⟨bx, ln, r64⟩ fun _ _ h => ?_
       exact lp_ (hK2 (k + 1, (rs ++ ([(((blkAt n E V L c).1).getD k.toNat 0)] : List Int))) [(0, some 0), (1, some 1), (2, some 61446), (3, some 3), (4, some 4), (5, some 5)] h ⟨by omega, by omega, by rw [hrs]; exact (filt_yes k0 q5 (decide_eq_true (getD_ne hB1 i0 q4 k0 q5 q6))).symm⟩ (lt_))
     refine go (pr := (InR .i64 (k + 1))) [] h r64 fun _ _ h => ?_
     exact lp_ (hK2 (k + 1, rs) [(0, some 0), (1, some 1), (2, some 2), (3, some 3), (4, some 4), (5, some 5)] h ⟨by omega, by omega, by rw [hrs]; exact (filt_no k0 q5 (by rw [q6]; simp)).symm⟩ (lt_))
   have b6 := block_but hp hB (v := (blkAt n E V L c).1.getD i.toNat 0) (r := rs) (fun x => by rw [hrs]; exact butI_mem q5 x)
   refine go (pr := (partE n E ((blkAt n E V L c).1) ((blkAt n E V L c).2) = 0) ∧ (inR n)) [] h ⟨b1, hn⟩ fun _ _ h => ?_
   refine go_if h (fun (q7 : (joinedB n E ((subV ((blkAt n E V L c).1) rs, subL E ((blkAt n E V L c).2) rs).1) ((subV ((blkAt n E V L c).1) rs, subL E ((blkAt n E V L c).2) rs).2)) = false) => ?_) (fun (q7 : (joinedB n E ((subV ((blkAt n E V L c).1) rs, subL E ((blkAt n E V L c).2) rs).1) ((subV ((blkAt n E V L c).1) rs, subL E ((blkAt n E V L c).2) rs).2)) = true) => ?_)
   · exact absurd (b6.symm.trans q7) (by simp)
   refine go (pr := (InR .i64 (i + 1))) [] h r64 fun _ _ h => ?_
   exact lp_ (hK1 (i + 1) [(0, some 0), (1, some 1), (2, some 3), (3, some 4), (4, some 5)] h ⟨by omega, by omega⟩ (lt_))
 refine go0 [] h fun _ _ h => ?_
 exact out ((true : Bool), ()) h rfl
end Go.Proofs.Ytahonnlgkmimlaa
