/-
 Texts joined by program: PairR, PairS, WalkQ15.
-/
import Derived.Test.YtahonnlgkmimlaaProg
import Derived.Test.YtahonnlgkmimlaaJPairRigid6
set_option linter.unusedSimpArgs false
set_option linter.unusedVariables false
set_option maxRecDepth 100000
set_option maxHeartbeats 8000000
namespace Go.Proofs.Ytahonnlgkmimlaa
open Go.RowKit
open Go.Proofs.Ytahonnlgkmimlaa.Deep
theorem two_ofA {α : Type} {L : List α} (hn : L.Nodup) (h : 2 ≤ L.length) : ∃ x ∈ L, ∃ y ∈ L, x ≠ y := by
 match L, hn, h with
 | x :: y :: t, hn, _ =>
   refine ⟨x, by simp, y, by simp, fun e => ?_⟩
   subst e
   simp at hn
theorem cls_nodup (l : List Lk) (u v : Int) : (classesL l u v).Nodup := by
 unfold classesL groupsR
 have hn : (rootsTo (clR u v l) (l.length : Int)).Nodup := (asc_nodup (upto_asc _)).sublist List.filter_sublist
 rw [List.Nodup, List.pairwise_map]
 refine List.Pairwise.imp_of_mem (fun {a b} ha hb hne e => hne ?_) hn
 obtain ⟨a1, a2⟩ := List.mem_filter.1 ha
 have hm : a ∈ (upto (l.length : Int)).filter fun j => decide (clR u v l j = a) := List.mem_filter.2 ⟨a1, a2⟩
 rw [e] at hm
 have := of_decide_eq_true (List.mem_filter.1 hm).2
 exact (of_decide_eq_true a2).symm.trans this
theorem spU_nil {l : List Lk} : ∀ {us : List Int}, spU l us = [] → ∀ i j : Nat, i < j → j < us.length → candC l (us.getD i 0) (us.getD j 0) (classesL l (us.getD i 0) (us.getD j 0)) = []
 | [], _, i, j, _, hj => by simp at hj
 | u :: us, h, i, j, hij, hj => by
   rw [spU, List.append_eq_nil_iff] at h
   match i, j, hij with
   | 0, j + 1, _ =>
     have h1 := h.1
     unfold candV at h1
     rw [List.flatMap_eq_nil_iff] at h1
     have hm : us.getD j 0 ∈ us := getD_mem (by simp at hj; omega)
     exact h1 _ hm
   | i + 1, j + 1, hij => exact spU_nil h.2 i j (by omega) (by simp at hj; omega)
structure Rig (l : List Lk) : Prop where
 right : rightK l = true
 one : l.length ≠ 1
 ring : ringR l = false
 two : (vertsL l).length ≠ 2
 none : splitsR l = []
theorem rig_of {l : List Lk} (hr : rightK l = true) (hk : kindK l = 3) : Rig l := by
 have hring := ring_eq hr
 have hf := first_eq hr
 unfold kindK at hk
 rw [if_neg (by rw [hr]; decide)] at hk
 split at hk
 · cases hk
 rename_i h1
 split at hk
 · cases hk
 rename_i h2
 split at hk
 · cases hk
 rename_i h3
 split at hk
 · cases hk
 rename_i h4
 refine ⟨hr, h1, by rw [← hring]; simpa using h2, h3, ?_⟩
 rw [hf] at h4
 cases e : splitsR l with
 | nil => rfl
 | cons a t => rw [e] at h4; exact (h4 rfl).elim
theorem rig_will {l : List Lk} (h : Rig l) {i j : Nat} (hij : i < j) (hj : j < (vertsL l).length) {c : List Int} (hc : c ∈ classesL l ((vertsL l).getD i 0) ((vertsL l).getD j 0)) : ¬ (2 ≤ (c.length : Int) ∧ 2 ≤ (l.length : Int) - (c.length : Int)) := by
 have hs := h.none
 unfold splitsR at hs
 rw [if_neg (by rw [h.ring]; decide)] at hs
 have h1 := spU_nil hs i j hij hj
 unfold candC at h1
 rw [List.map_eq_nil_iff, List.filter_eq_nil_iff] at h1
 intro ⟨a, b⟩
 exact h1 c hc (by unfold willB; rw [decide_eq_true a, decide_eq_true b]; rfl)
theorem cls_apart {l : List Lk} {u v : Int} {c d : List Int} (hc : c ∈ classesL l u v) (hd : d ∈ classesL l u v) (hne : c ≠ d) {x : Int} (h1 : x ∈ c) : x ∉ d := fun h2 => hne (cls_uniq hc hd h1 h2)
theorem cls_two_len {l : List Lk} {u v : Int} {c d : List Int} (hc : c ∈ classesL l u v) (hd : d ∈ classesL l u v) (hne : c ≠ d) : c.length + d.length ≤ l.length := by
 have ac := rises_iff.1 (cls_asc hc); have ad := rises_iff.1 (cls_asc hd)
 have hn : (c ++ d).Nodup := List.nodup_append.2 ⟨asc_nodup ac.1, asc_nodup ad.1, fun x hx y hy e => cls_apart hc hd hne hx (e ▸ hy)⟩
 have := nodup_le (m := upto (l.length : Int)) hn fun x hx => by
   rcases List.mem_append.1 hx with h | h
   · exact mem_upto.2 (ac.2 x h)
   exact mem_upto.2 (ad.2 x h)
 rw [List.length_append, upto_len] at this
 omega
theorem cls_three_len {l : List Lk} {u v : Int} {c d e : List Int} (hc : c ∈ classesL l u v) (hd : d ∈ classesL l u v) (he : e ∈ classesL l u v) (h1 : c ≠ d) (h2 : c ≠ e) (h3 : d ≠ e) : c.length + d.length + e.length ≤ l.length := by
 have ac := rises_iff.1 (cls_asc hc); have ad := rises_iff.1 (cls_asc hd); have ae := rises_iff.1 (cls_asc he)
 have hn0 : (c ++ d).Nodup := List.nodup_append.2 ⟨asc_nodup ac.1, asc_nodup ad.1, fun x hx y hy e => cls_apart hc hd h1 hx (e ▸ hy)⟩
 have hn : ((c ++ d) ++ e).Nodup := List.nodup_append.2 ⟨hn0, asc_nodup ae.1, fun x hx y hy q => by
   rcases List.mem_append.1 hx with hx | hx
   · exact cls_apart hc he h2 hx (q ▸ hy)
   exact cls_apart hd he h3 hx (q ▸ hy)⟩
 have := nodup_le (m := upto (l.length : Int)) hn fun x hx => by
   rcases List.mem_append.1 hx with h | h
   · rcases List.mem_append.1 h with h | h
     · exact mem_upto.2 (ac.2 x h)
     exact mem_upto.2 (ad.2 x h)
   exact mem_upto.2 (ae.2 x h)
 rw [List.length_append, List.length_append, upto_len] at this
 omega
def wideB (c : List Int) : Bool := decide ((1 : Int) < (c.length : Int))
section
variable {l : List Lk} {u v : Int}
theorem rig_pair (h : Rig l) (hu : u ∈ vertsL l) (hv : v ∈ vertsL l) (hne : u ≠ v) (hw : ∀ c ∈ classesL l u v, ¬ (2 ≤ (c.length : Int) ∧ 2 ≤ (l.length : Int) - (c.length : Int))) :
   ((classesL l u v).filter wideB).length = 1 ∧ ((classesL l u v).filter fun c => !wideB c).length ≤ 1 := by
 have hwh := (rk_wh h.right).1
 have hl2 : 2 ≤ l.length := by have := right_pos h.right; have := h.one; omega
 have hnd := cls_nodup l u v
 -- a wide one
 have hex : ∃ c ∈ classesL l u v, wideB c = true := by
   have : ∃ g ∈ upto (l.length : Int), ∃ w, (grK l).inc g w ∧ w ≠ u ∧ w ≠ v := by
     refine Classical.byContradiction fun q => ?_
     have hall : ∀ x ∈ vertsL l, x ∈ [u, v] := fun x hx => by
       obtain ⟨g, hg, hi⟩ := verts_inc hx
       by_cases e1 : x = u
       · subst e1; simp
       by_cases e2 : x = v
       · subst e2; simp
       exact (q ⟨g, hg, x, hi, e1, e2⟩).elim
     have k1 := nodup_le (asc_nodup (verts_asc l)) hall
     have k2 := nodup_le (l := [u, v]) (m := vertsL l) (by simp [hne]) (fun x hx => by
       simp only [List.mem_cons, List.not_mem_nil, or_false] at hx
       rcases hx with e | e <;> subst e <;> assumption)
     have := h.two
     simp only [List.length_cons, List.length_nil] at k1 k2
     omega
   obtain ⟨g, hg, w, hi, wu, wv⟩ := this
   obtain ⟨g2, hg2, hne2, hi2⟩ := two_at h.right hl2 hg hi
   have hg' := mem_upto.1 hg; have hg2' := mem_upto.1 hg2
   obtain ⟨c, hc, hgc⟩ := cls_of (u := u) (v := v) hg'.1 hg'.2
   have hgc2 := cls_cl hc hgc hg2'.1 hg2'.2 (.link hg'.1 hg'.2 hg2'.1 hg2'.2 (touch_iff.2 ⟨w, wu, wv, hi, hi2⟩))
   refine ⟨c, hc, decide_eq_true ?_⟩
   have := two_len hgc hgc2 hne2
   omega
 obtain ⟨c, hc, hcw⟩ := hex
 have hc2 : (1 : Int) < (c.length : Int) := of_decide_eq_true hcw
 constructor
 · have h1 : 0 < ((classesL l u v).filter wideB).length := List.length_pos_of_mem (List.mem_filter.2 ⟨hc, hcw⟩)
   refine Classical.byContradiction fun q => ?_
   obtain ⟨x, hx, y, hy, hxy⟩ := two_ofA (L := (classesL l u v).filter wideB) (hnd.sublist List.filter_sublist) (by omega)
   obtain ⟨x1, x2⟩ := List.mem_filter.1 hx
   obtain ⟨y1, y2⟩ := List.mem_filter.1 hy
   have x2 : (1 : Int) < (x.length : Int) := of_decide_eq_true x2
   have y2 : (1 : Int) < (y.length : Int) := of_decide_eq_true y2
   have := cls_two_len x1 y1 hxy
   exact hw x x1 ⟨by omega, by omega⟩
 refine Classical.byContradiction fun q => ?_
 obtain ⟨x, hx, y, hy, hxy⟩ := two_ofA (L := (classesL l u v).filter fun c => !wideB c) (hnd.sublist List.filter_sublist) (by omega)
 obtain ⟨x1, x2⟩ := List.mem_filter.1 hx
 obtain ⟨y1, y2⟩ := List.mem_filter.1 hy
 have hcx : c ≠ x := fun e => by subst e; rw [hcw] at x2; cases x2
 have hcy : c ≠ y := fun e => by subst e; rw [hcw] at y2; cases y2
 have := cls_three_len hc x1 y1 hcx hcy hxy
 have h3 := List.length_pos_iff.2 (cls_ne x1)
 have h4 := List.length_pos_iff.2 (cls_ne y1)
 exact hw c hc ⟨by omega, by omega⟩
end
theorem cn_between {l : List Lk} {u v : Int} {a b : Int} (h : Cn l u v a b) : (grK l).joins a u v ∨ (grK l).joins b u v → a = b := by
 have no : ∀ {e k : Int}, (grK l).joins e u v → ¬ touchK (lkAt l e) (lkAt l k) u v := fun hj ht => by
   obtain ⟨w, h1, h2, h3, _⟩ := touch_iff.1 ht
   rcases hj.of h3 with e | e
   · exact h1 e
   exact h2 e
 induction h with
 | refl => intro _; rfl
 | link _ _ _ _ ht =>
   rintro (q | q)
   · exact (no q ht).elim
   exact (no q (touch_symm ht)).elim
 | symm _ ih => intro q; exact (ih q.symm).symm
 | trans _ _ h1 h2 =>
   rintro (q | q)
   · have e := h1 (.inl q); subst e; exact h2 (.inl q)
   have e := h2 (.inr q); subst e; exact h1 (.inr q)
theorem cls_between {l : List Lk} {u v e : Int} (he : e ∈ upto (l.length : Int)) (hj : (grK l).joins e u v) : [e] ∈ classesL l u v := by
 have he' := mem_upto.1 he
 obtain ⟨c, hc, hec⟩ := cls_of (u := u) (v := v) he'.1 he'.2
 have : c = [e] := asc_ext (rises_iff.1 (cls_asc hc)).1 (List.pairwise_singleton _ _) fun x => by
   rw [List.mem_singleton]
   constructor
   · intro hx; exact (cn_between (cls_cn hc hec hx) (.inl hj)).symm
   intro hx; subst hx; exact hec
 rwa [this] at hc
theorem rig_once {l : List Lk} {u v : Int} (h : ((classesL l u v).filter fun c => !wideB c).length ≤ 1) {e g : Int} (he : e ∈ upto (l.length : Int)) (hg : g ∈ upto (l.length : Int)) (h1 : (grK l).joins e u v) (h2 : (grK l).joins g u v) : e = g := by
 refine Classical.byContradiction fun q => ?_
 have := two_len (L := (classesL l u v).filter fun c => !wideB c) (List.mem_filter.2 ⟨cls_between he h1, by unfold wideB; rfl⟩) (List.mem_filter.2 ⟨cls_between hg h2, by unfold wideB; rfl⟩) (fun e => q (by simpa using e))
 omega
theorem rig_at {l : List Lk} (h : Rig l) {i j : Nat} (hij : i < j) (hj : j < (vertsL l).length) :
   ((classesL l ((vertsL l).getD i 0) ((vertsL l).getD j 0)).filter wideB).length = 1 ∧ ((classesL l ((vertsL l).getD i 0) ((vertsL l).getD j 0)).filter fun c => !wideB c).length ≤ 1 := by
 refine rig_pair h (getD_mem (by omega)) (getD_mem hj) ?_ fun c hc => rig_will h hij hj hc
 have := rises_lt (verts_rises (rk_wh h.right).1) hij hj
 omega
theorem rig_four {l : List Lk} (h : Rig l) : 4 ≤ (vertsL l).length := by
 have hw := (rk_wh h.right).1
 have hpos := right_pos h.right
 have hl2 : 2 ≤ l.length := by have := h.one; omega
 have hA : lkA l 0 ∈ vertsL l := inc_verts (e := 0) (mem_upto.2 (by omega)) (.inl rfl)
 have hB : lkB l 0 ∈ vertsL l := inc_verts (e := 0) (mem_upto.2 (by omega)) (.inr rfl)
 have hne : lkA l 0 ≠ lkB l 0 := noLp hw (e := 0) (mem_upto.2 (by omega))
 have h2 := two_len hA hB hne
 have hs := sum_verts l
 have hge := sum_ge (c := fun v => (endsK l).count v) (vertsL l) fun v hv => deg_two h.right hl2 hv
 refine Classical.byContradiction fun q => ?_
 have h3 : (vertsL l).length = 3 := by have := h.two; omega
 have r01 := (rig_at h (i := 0) (j := 1) (by omega) (by omega)).2
 have r02 := (rig_at h (i := 0) (j := 2) (by omega) (by omega)).2
 have r12 := (rig_at h (i := 1) (j := 2) (by omega) (by omega)).2
 have hn3 : l.length ≠ 3 := fun e => by have hr := h.ring; unfold ringR at hr; rw [h3, e] at hr; simp at hr
 have hnd := asc_nodup (verts_asc l)
 have hmem : ∀ {e : Int}, e ∈ upto (l.length : Int) → lkA l e ∈ vertsL l ∧ lkB l e ∈ vertsL l ∧ lkA l e ≠ lkB l e := fun he => ⟨inc_verts he (.inl rfl), inc_verts he (.inr rfl), noLp hw he⟩
 generalize vertsL l = V at *
 match V, h3 with
 | [a, b, c], _ =>
   have r01 : ((classesL l a b).filter fun c => !wideB c).length ≤ 1 := r01
   have r02 : ((classesL l a c).filter fun c => !wideB c).length ≤ 1 := r02
   have r12 : ((classesL l b c).filter fun c => !wideB c).length ≤ 1 := r12
   simp only [List.nodup_cons, List.mem_cons, List.not_mem_nil, or_false, not_or] at hnd
   have key : ∀ e ∈ upto (l.length : Int), ((grK l).joins e a b ∧ a + b + c - lkA l e - lkB l e = c) ∨ ((grK l).joins e a c ∧ a + b + c - lkA l e - lkB l e = b) ∨ ((grK l).joins e b c ∧ a + b + c - lkA l e - lkB l e = a) := by
     intro e he
     obtain ⟨k1, k2, k3⟩ := hmem he
     simp only [List.mem_cons, List.not_mem_nil, or_false] at k1 k2
     rcases k1 with e1 | e1 | e1 <;> rcases k2 with e2 | e2 | e2 <;> first
       | exact (k3 (e1.trans e2.symm)).elim
       | exact .inl ⟨.inl ⟨e1, e2⟩, by omega⟩
       | exact .inl ⟨.inr ⟨e1, e2⟩, by omega⟩
       | exact .inr (.inl ⟨.inl ⟨e1, e2⟩, by omega⟩)
       | exact .inr (.inl ⟨.inr ⟨e1, e2⟩, by omega⟩)
       | exact .inr (.inr ⟨.inl ⟨e1, e2⟩, by omega⟩)
       | exact .inr (.inr ⟨.inr ⟨e1, e2⟩, by omega⟩)
   have hinj : ((upto (l.length : Int)).map fun e => a + b + c - lkA l e - lkB l e).Nodup := by
     rw [List.Nodup, List.pairwise_map]
     refine List.Pairwise.imp_of_mem (fun {e g} he hg hne q2 => hne ?_) (asc_nodup (upto_asc (l.length : Int)))
     rcases key e he with ⟨j1, t1⟩ | ⟨j1, t1⟩ | ⟨j1, t1⟩ <;> rcases key g hg with ⟨j2, t2⟩ | ⟨j2, t2⟩ | ⟨j2, t2⟩ <;> first | exact rig_once r01 he hg j1 j2 | exact rig_once r02 he hg j1 j2 | exact rig_once r12 he hg j1 j2 | (exfalso; omega)
   have hsub := nodup_le (m := [a, b, c]) hinj fun x hx => by
     obtain ⟨e, he, rfl⟩ := List.mem_map.1 hx
     simp only [List.mem_cons, List.not_mem_nil, or_false]
     rcases key e he with ⟨_, t⟩ | ⟨_, t⟩ | ⟨_, t⟩ <;> omega
   rw [List.length_map, upto_len] at hsub
   simp only [List.length_cons, List.length_nil] at hsub hge
   omega
def wideN (cs : List (List Int)) : Int := ((cs.filter wideB).length : Int)
def betwN (cs : List (List Int)) : Int := ((cs.filter fun c => !wideB c).length : Int)
theorem wideN_bd (cs : List (List Int)) : 0 ≤ wideN cs ∧ wideN cs ≤ (cs.length : Int) := by
 have := List.length_filter_le wideB cs; unfold wideN; omega
theorem betwN_bd (cs : List (List Int)) : 0 ≤ betwN cs ∧ betwN cs ≤ (cs.length : Int) := by
 have := List.length_filter_le (fun c => !wideB c) cs; unfold betwN; omega
theorem wide_yes {cs : List (List Int)} {k : Int} (h0 : 0 ≤ k) (h1 : k < (cs.length : Int)) (h : (1 : Int) < ((cs.getD k.toNat []).length : Int)) : wideN (cs.take (k + 1).toNat) = wideN (cs.take k.toNat) + 1 := by
 unfold wideN
 rw [take_snocD (d := []) h0 h1, List.filter_append, List.filter_cons, if_pos (show wideB _ = true from decide_eq_true h), List.length_append]; simp
theorem wide_no {cs : List (List Int)} {k : Int} (h0 : 0 ≤ k) (h1 : k < (cs.length : Int)) (h : ¬ (1 : Int) < ((cs.getD k.toNat []).length : Int)) : wideN (cs.take (k + 1).toNat) = wideN (cs.take k.toNat) := by
 unfold wideN
 rw [take_snocD (d := []) h0 h1, List.filter_append, List.filter_cons, if_neg (show ¬ wideB _ = true from fun q => h (of_decide_eq_true q)), List.filter_nil, List.append_nil]
theorem betw_yes {cs : List (List Int)} {k : Int} (h0 : 0 ≤ k) (h1 : k < (cs.length : Int)) (h : (1 : Int) < ((cs.getD k.toNat []).length : Int)) : betwN (cs.take (k + 1).toNat) = betwN (cs.take k.toNat) := by
 have e : wideB (cs.getD k.toNat []) = true := decide_eq_true h
 unfold betwN
 rw [take_snocD (d := []) h0 h1, List.filter_append, List.filter_cons, if_neg (by rw [e]; decide), List.filter_nil, List.append_nil]
theorem betw_no {cs : List (List Int)} {k : Int} (h0 : 0 ≤ k) (h1 : k < (cs.length : Int)) (h : ¬ (1 : Int) < ((cs.getD k.toNat []).length : Int)) : betwN (cs.take (k + 1).toNat) = betwN (cs.take k.toNat) + 1 := by
 have e : wideB (cs.getD k.toNat []) = false := decide_eq_false h
 unfold betwN
 rw [take_snocD (d := []) h0 h1, List.filter_append, List.filter_cons, if_pos (by rw [e]; rfl), List.length_append]; simp
theorem rig_counts {l : List Lk} (h : Rig l) {i j : Int} (h0 : 0 ≤ i) (hij : i < j) (hj : j < ((vertsL l).length : Int)) :
   pclassesE l ((vertsL l).getD i.toNat 0) ((vertsL l).getD j.toNat 0) = classesL l ((vertsL l).getD i.toNat 0) ((vertsL l).getD j.toNat 0) ∧ wideN (classesL l ((vertsL l).getD i.toNat 0) ((vertsL l).getD j.toNat 0)) = 1 ∧ betwN (classesL l ((vertsL l).getD i.toNat 0) ((vertsL l).getD j.toNat 0)) ≤ 1 := by
 obtain ⟨a, b⟩ := rig_at h (i := i.toNat) (j := j.toNat) (by omega) (by omega)
 have hlt := rises_lt (verts_rises (rk_wh h.right).1) (i := i.toNat) (j := j.toNat) (by omega) (by omega)
 refine ⟨pcl_yes ⟨⟨⟨h.right, by omega⟩, getD_mem (by omega)⟩, getD_mem (by omega)⟩, by unfold wideN; omega, by unfold betwN; omega⟩
theorem rig_countsE {l : List Lk} (h : Rig l) {i j : Int} (h0 : 0 ≤ i) (hij : i < j) (hj : j < ((vertsL l).length : Int)) :
   wideN (pclassesE l ((vertsL l).getD i.toNat 0) ((vertsL l).getD j.toNat 0)) = 1 ∧ betwN (pclassesE l ((vertsL l).getD i.toNat 0) ((vertsL l).getD j.toNat 0)) ≤ 1 := by
 obtain ⟨a, b, c⟩ := rig_counts h h0 hij hj
 rw [a]; exact ⟨b, c⟩
theorem pairRigid_any (vl : Value) (l : List (Int × Int × Int)) (w : World) (hL : Rd (· < w.heap.size) w vl l) (hs : l.length ≤ 9223372036854775807) (hwf : WfL l) :
 Calls Try.prog 14 [vl].toArray w (Ans (.bool true) w) := by
 refine enter Try.f14 85 Try.func14 fun a hA => ?_
 replace hA := env_sub [(0, vl)] hA
 have H := Fr.start (org w)
 refine go_seq fun K1 hK1 => ?_
 refine q_reg [] [(0, vl)] (TT ∧ True) hA H ⟨tv, tv⟩ fun a w2 hA H hG => ?_
 refine hK1 _ _ ?_
 refine go_seq fun K3 hK3 => ?_
 refine go_seq fun K4 hK4 => ?_
 refine q_reg [(12, .bool true), (16, iv (l.length : Int))] [(0, vl), (18, .bool (decide ((16 : Int) < (l.length : Int))))] ((Callable Try.prog 55 ∧ CallOk Try.prog (On w2) 55 [].toArray (.bool true)) ∧ TT ∧ TT ∧ ((false) = false → True) ∧ ((false) = false → LenOk vl (l.length : Int)) ∧ ((false) = false → True) ∧ TT ∧ True) hA H ⟨⟨callable_of, callOk_of fun w hw => by exact awakeP_any w⟩, tv, tv, fun _ => tv, fun _ => by exact len_ok (H.arg hL), fun _ => tv, tv, tv⟩ fun a w5 hA H hG => ?_
 refine hK4 _ _ ?_
 refine go_cond hA (.tmp 18) (decide ((16 : Int) < (l.length : Int))) (fun hb6 => ?_) (fun hb6 => ?_)
 · have hhb6 := of_decide_eq_true hb6
   refine go_seq fun K7 hK7 => ?_
   refine q_reg [(19, .bool true)] [(2, .bool true)] ((Callable Try.prog 55 ∧ CallOk Try.prog (On w5) 55 [].toArray (.bool true)) ∧ TT ∧ True) hA H ⟨⟨callable_of, callOk_of fun w hw => by exact awakeP_any w⟩, tv, tv⟩ fun a w8 hA H hG => ?_
   refine hK7 _ _ ?_
   refine go_ret_ ?_
   refine ret_one 2 (.bool true) hA ?_
   exact ans_b' rfl H.below
 have hhb6 := of_decide_eq_false hb6
 refine go_skip ?_
 refine hK3 _ _ ?_
 refine go_seq fun K9 hK9 => ?_
 refine region_list ?_
 refine q_list 0 1 [] [(0, vl), (21, vl)] (TT ∧ True) hA H ⟨tv, tv⟩ fun a w10 hA H hG => ?_
 refine list_at 1 ?_; refine q_call 1 22 57 #[.tmp 21] #[66] [vl] (fun S v_ w' => Rd S w' v_ (l)) [(0, vl)] hA H (by exact of_any vl l H.at ((H.arg hL)) (by omega)) fun v11 a w12 S hR13 H hA hG => ?_
 replace H := H.ro hR13
 refine q_list 2 6 [(23, .tuple #[.int .i64 (kindK l), .bool (rightK l)])] [(0, vl), (3, iv (kindK l)), (4, .bool (rightK l))] ((Callable Try.prog 64 ∧ CallOk Try.prog (On w12) 64 [v11].toArray (.tuple #[.int .i64 (kindK l), .bool (rightK l)])) ∧ TT ∧ TT ∧ TT ∧ TT ∧ TT ∧ True) hA H ⟨⟨callable_of, callOk_of fun w hw => by exact kind_any v11 l w (((H.on hw).get 0 rfl)) (by omega) hwf⟩, tv, tv, tv, tv, tv, tv⟩ fun a w15 hA H hG => ?_
 refine list_end ?_
 refine hK9 _ _ ?_
 refine go_seq fun K16 hK16 => ?_
 refine go_seq fun K17 hK17 => ?_
 refine q_reg [] [(0, vl), (31, .bool ((!(rightK l)) || (!decide ((kindK l) = 3))))] (TT ∧ TT ∧ TT ∧ ((!(rightK l)) = false → True) ∧ ((!(rightK l)) = false → True) ∧ TT ∧ True) hA H ⟨tv, tv, tv, fun _ => tv, fun _ => tv, tv, tv⟩ fun a w18 hA H hG => ?_
 refine hK17 _ _ ?_
 refine go_cond hA (.tmp 31) ((!(rightK l)) || (!decide ((kindK l) = 3))) (fun hb19 => ?_) (fun hb19 => ?_)
 · have hhb19 := (oT hb19).imp (fun h => (nT h)) (fun h => of_decide_eq_false (nT h))
   refine go_seq fun K20 hK20 => ?_
   refine q_reg [] [(2, .bool true)] (TT ∧ True) hA H ⟨tv, tv⟩ fun a w21 hA H hG => ?_
   refine hK20 _ _ ?_
   refine go_ret_ ?_
   refine ret_one 2 (.bool true) hA ?_
   exact ans_b' rfl H.below
 have hhb19 := (⟨(nF ((oF hb19).1)), of_decide_eq_true (nF ((oF hb19).2))⟩ : _ ∧ _)
 refine go_skip ?_
 refine hK16 _ _ ?_
 refine go_seq fun K22 hK22 => ?_
 have hR := rig_of hhb19.1 hhb19.2
 have hvr : ∀ q : Nat, q < (vertsL l).length → 0 ≤ (vertsL l).getD q 0 ∧ (vertsL l).getD q 0 < 1024 := fun q hq => (rises_iff.1 (verts_rises (rk_wh hR.right).1)).2 _ (getD_mem hq)
 have hvl := verts_len l
 have hs2 : l.length ≤ 16 := by omega
 refine region_list ?_
 refine q_list 0 1 [] [(0, vl), (32, vl)] (TT ∧ True) hA H ⟨tv, tv⟩ fun a w23 hA H hG => ?_
 refine list_at 1 ?_; refine q_call 1 33 57 #[.tmp 32] #[66] [vl] (fun S v_ w' => Rd S w' v_ (l)) [(0, vl)] hA H (by exact of_any vl l H.at ((H.arg hL)) (by omega)) fun v24 a w25 S hR26 H hA hG => ?_
 replace H := H.ro hR26
 refine list_at 2 ?_; refine q_call 2 34 61 #[.tmp 33] #[69] [v24] (fun S v_ w' => Rd S w' v_ (vertsL l)) [(0, vl)] hA H (by exact verts_any v24 l H.at ((H.get 0 rfl)) (by omega)) fun v28 a w29 S hR30 H hA hG => ?_
 replace H := H.ro hR30
 refine q_list 3 1 [] [(0, vl), (5, v28)] (TT ∧ True) hA H ⟨tv, tv⟩ fun a w32 hA H hG => ?_
 refine list_end ?_
 refine hK22 _ _ ?_
 refine go_seq fun K33 hK33 => ?_
 refine go_seq fun K34 hK34 => ?_
 refine q_reg [] [(0, vl), (5, v28), (6, iv 0)] (TT ∧ True) hA H ⟨tv, tv⟩ fun a w35 hA H hG => ?_
 refine hK34 _ _ ?_
 refine go_block 0 ?_
 refine go_loop_ (Int) (fun x_ a W => (fun (i : Int) => EnvOk 85 a (keepEnv [(0, vl), (5, v28), (6, iv i)]) ∧ (∃ S, Fr (org w) W S [.ro v28 (vertsL l), .ro v24 l, .ro v11 l]) ∧ 0 ≤ i) x_) (fun x_ => (fun (i : Int) => (((vertsL l).length : Int) - i).toNat) x_) (0) ?_ (fun i a w37 hI => ?_)
 · (try dsimp only); exact ⟨env_sub _ hA, ⟨_, H⟩, by omega⟩
 obtain ⟨hA, ⟨S, H⟩, h0⟩ := hI
 try dsimp only at h0
 refine go_seq fun K38 hK38 => ?_
 refine go_seq fun K39 hK39 => ?_
 refine q_reg [(37, iv ((vertsL l).length : Int))] [(0, vl), (5, v28), (6, iv i), (38, .bool (decide (i < ((vertsL l).length : Int))))] (TT ∧ TT ∧ (LenOk v28 ((vertsL l).length : Int)) ∧ TT ∧ True) hA H ⟨tv, tv, by exact len_ok (H.get 0 rfl), tv, tv⟩ fun a w40 hA H hG => ?_
 refine hK39 _ _ ?_
 refine go_cond hA (.tmp 38) (decide (i < ((vertsL l).length : Int))) (fun hb41 => ?_) (fun hb41 => ?_)
 · have hhb41 := of_decide_eq_true hb41
   refine go_skip ?_
   refine hK38 _ _ ?_
   refine go_seq fun K42 hK42 => ?_
   refine go_block 1 ?_
   refine go_seq fun K43 hK43 => ?_
   refine q_reg [] [(0, vl), (5, v28), (6, iv i), (7, iv (i + 1))] (TT ∧ (InR .i64 (i + 1)) ∧ TT ∧ True) hA H ⟨tv, ⟨by omega, by omega⟩, tv, tv⟩ fun a w44 hA H hG => ?_
   refine hK43 _ _ ?_
   refine go_block 2 ?_
   refine go_loop_ (Int) (fun x_ a W => (fun (j : Int) => EnvOk 85 a (keepEnv [(0, vl), (5, v28), (6, iv i), (7, iv j)]) ∧ (∃ S, Fr (org w) W S [.ro v28 (vertsL l), .ro v24 l, .ro v11 l]) ∧ i < j) x_) (fun x_ => (fun (j : Int) => (((vertsL l).length : Int) - j).toNat) x_) (i + 1) ?_ (fun j a w46 hI => ?_)
   · (try dsimp only); exact ⟨env_sub _ hA, ⟨_, H⟩, by omega⟩
   obtain ⟨hA, ⟨S, H⟩, hij⟩ := hI
   try dsimp only at hij
   refine go_seq fun K47 hK47 => ?_
   refine go_seq fun K48 hK48 => ?_
   refine q_reg [(45, iv ((vertsL l).length : Int))] [(0, vl), (5, v28), (6, iv i), (7, iv j), (46, .bool (decide (j < ((vertsL l).length : Int))))] (TT ∧ TT ∧ (LenOk v28 ((vertsL l).length : Int)) ∧ TT ∧ True) hA H ⟨tv, tv, by exact len_ok (H.get 0 rfl), tv, tv⟩ fun a w49 hA H hG => ?_
   refine hK48 _ _ ?_
   refine go_cond hA (.tmp 46) (decide (j < ((vertsL l).length : Int))) (fun hb50 => ?_) (fun hb50 => ?_)
   · have hhb50 := of_decide_eq_true hb50
     refine go_skip ?_
     refine hK47 _ _ ?_
     refine go_seq fun K51 hK51 => ?_
     refine go_block 3 ?_
     refine go_seq fun K52 hK52 => ?_
     have hvi := hvr i.toNat (by omega); have hvj := hvr j.toNat (by omega)
     have hpl := pclasses_len l ((vertsL l).getD i.toNat 0) ((vertsL l).getD j.toNat 0)
     obtain ⟨hc1, hc2⟩ := rig_countsE hR h0 hij (by omega)
     refine q_reg [] [(0, vl), (5, v28), (6, iv i), (7, iv j), (8, iv 0), (9, iv 0)] (TT ∧ TT ∧ True) hA H ⟨tv, tv, tv⟩ fun a w53 hA H hG => ?_
     refine hK52 _ _ ?_
     refine go_seq fun K54 hK54 => ?_
     have H0 := H
     have hM0 := H0.keeps none (.inl rfl)
     refine region_mix (But w53 none) [0, 1, 2, 3, 4, 5, 6, 7, 8, 9, 10] 12 ?_
     replace H := H.drawn; have hD := But.drew w53 none
     generalize ({ w53 with drawn := w53.drawn + 1 } : World) = w55 at H hD ⊢
     refine m_take (n := 3) [0, 2, 3, 4, 5, 6, 7, 8, 9] #[true, false, true, true, true, true, true, true, true, true, false, false] [(54, iv ((vertsL l).getD i.toNat 0)), (58, iv ((vertsL l).getD j.toNat 0))] [(0, vl), (5, v28), (6, iv i), (7, iv j), (8, iv 0), (9, iv 0), (49, vl), (54, iv ((vertsL l).getD i.toNat 0)), (58, iv ((vertsL l).getD j.toNat 0))] (TT ∧ TT ∧ TT ∧ ((Try.prog.info? 3).isSome = true ∧ IdxOk v28 i) ∧ (CellOk (But w53 none) (hdB v28) (hdO v28 + i.toNat * 1) (.int .i64 ((vertsL l).getD i.toNat 0))) ∧ TT ∧ TT ∧ ((Try.prog.info? 3).isSome = true ∧ IdxOk v28 j) ∧ (CellOk (But w53 none) (hdB v28) (hdO v28 + j.toNat * 1) (.int .i64 ((vertsL l).getD j.toNat 0))) ∧ True) hA hD ⟨tv, tv, tv, ⟨by kernel_rfl, by exact idx_ok (H0.getT 0 rfl) (by omega) (by omega)⟩, by exact cell_flatC hM0 (i := i) (H0.getT 0 rfl) (by omega) (by omega) 0 0, tv, tv, ⟨by kernel_rfl, by exact idx_ok (H0.getT 0 rfl) (by omega) (by omega)⟩, by exact cell_flatC hM0 (i := j) (H0.getT 0 rfl) (by omega) (by omega) 0 0, tv⟩ fun a hA => ?_
     refine m_one 1 ?_; refine q_call 1 50 57 #[.tmp 49] #[66] [vl] (fun S v_ w' => Rd S w' v_ (l)) [(0, vl), (5, v28), (6, iv i), (7, iv j), (8, iv 0), (9, iv 0), (54, iv ((vertsL l).getD i.toNat 0)), (58, iv ((vertsL l).getD j.toNat 0))] hA H (by exact of_any vl l H.at ((H.arg hL)) (by omega)) fun v56 a w57 S hR58 H hA hG => ?_
     replace H := H.ro hR58
     replace hD := hD.below hG
     refine ⟨fun _ => hD, ?_⟩
     refine m_one 10 ?_; refine q_call 10 59 56 #[.tmp 50, .tmp 54, .tmp 58] #[69, 3, 3] [v56, .int .i64 ((vertsL l).getD i.toNat 0), .int .i64 ((vertsL l).getD j.toNat 0)] (fun S v_ w' => Rd S w' v_ ((pclassesE l ((vertsL l).getD i.toNat 0) ((vertsL l).getD j.toNat 0)))) [(0, vl), (5, v28), (6, iv i), (7, iv j), (8, iv 0), (9, iv 0)] hA H (by exact pclasses_any v56 l ((vertsL l).getD i.toNat 0) ((vertsL l).getD j.toNat 0) H.at ((H.get 0 rfl)) (by omega) hwf (by omega) (by omega)) fun v60 a w61 S hR62 H hA hG => ?_
     replace H := H.ro hR62
     replace hD := hD.below hG
     refine ⟨fun _ => hD, ?_⟩
     refine m_one 11 ?_; refine q_one 11 [] [(0, vl), (5, v28), (6, iv i), (7, iv j), (8, iv 0), (9, iv 0), (10, v60)] (TT ∧ True) hA H ⟨tv, tv⟩ fun a w64 H hA hG => ?_
     refine ⟨fun h => absurd h (by decide), ?_⟩
     refine m_end ?_
     refine hK54 _ _ ?_
     refine go_seq fun K65 hK65 => ?_
     refine go_seq fun K66 hK66 => ?_
     refine q_reg [] [(0, vl), (5, v28), (6, iv i), (7, iv j), (8, iv 0), (9, iv 0), (10, v60), (11, iv 0)] (TT ∧ True) hA H ⟨tv, tv⟩ fun a w67 hA H hG => ?_
     refine hK66 _ _ ?_
     refine go_block 4 ?_
     refine go_loop_ (Int × Int × Int) (fun x_ a W => (fun (k : Int) (wd : Int) (bt : Int) => EnvOk 85 a (keepEnv [(0, vl), (5, v28), (6, iv i), (7, iv j), (8, iv wd), (9, iv bt), (10, v60), (11, iv k)]) ∧ (∃ S, Fr (org w) W S [.ro v60 (pclassesE l ((vertsL l).getD i.toNat 0) ((vertsL l).getD j.toNat 0)), .ro v56 l, .ro v28 (vertsL l), .ro v24 l, .ro v11 l]) ∧ 0 ≤ k ∧ k ≤ ((pclassesE l ((vertsL l).getD i.toNat 0) ((vertsL l).getD j.toNat 0)).length : Int) ∧ wd = wideN ((pclassesE l ((vertsL l).getD i.toNat 0) ((vertsL l).getD j.toNat 0)).take k.toNat) ∧ bt = betwN ((pclassesE l ((vertsL l).getD i.toNat 0) ((vertsL l).getD j.toNat 0)).take k.toNat)) x_.1 x_.2.1 x_.2.2) (fun x_ => (fun (k : Int) (wd : Int) (bt : Int) => (((pclassesE l ((vertsL l).getD i.toNat 0) ((vertsL l).getD j.toNat 0)).length : Int) - k).toNat) x_.1 x_.2.1 x_.2.2) (0, 0, 0) ?_ (fun x_ a w69 hI => ?_)
     · (try dsimp only); exact ⟨env_sub _ hA, ⟨_, H⟩, by omega, by omega, by simp [wideN], by simp [betwN]⟩
     obtain ⟨k, wd, bt⟩ := x_
     obtain ⟨hA, ⟨S, H⟩, k0, k0b, hwd, hbt⟩ := hI
     try dsimp only at k0 k0b hwd hbt
     replace H : Fr _ _ _ [.ro v60 (pclassesE l ((vertsL l).getD i.toNat 0) ((vertsL l).getD j.toNat 0)), .ro v56 l, .ro v28 (vertsL l), .ro v24 l, .ro v11 l] := H
     have hwb := wideN_bd ((pclassesE l ((vertsL l).getD i.toNat 0) ((vertsL l).getD j.toNat 0)).take k.toNat); have hbb := betwN_bd ((pclassesE l ((vertsL l).getD i.toNat 0) ((vertsL l).getD j.toNat 0)).take k.toNat); rw [List.length_take] at hwb hbb
     refine go_seq fun K70 hK70 => ?_
     refine go_seq fun K71 hK71 => ?_
     refine q_reg [(62, iv ((pclassesE l ((vertsL l).getD i.toNat 0) ((vertsL l).getD j.toNat 0)).length : Int))] [(0, vl), (5, v28), (6, iv i), (7, iv j), (8, iv wd), (9, iv bt), (10, v60), (11, iv k), (63, .bool (decide (k < ((pclassesE l ((vertsL l).getD i.toNat 0) ((vertsL l).getD j.toNat 0)).length : Int))))] (TT ∧ TT ∧ (LenOk v60 ((pclassesE l ((vertsL l).getD i.toNat 0) ((vertsL l).getD j.toNat 0)).length : Int)) ∧ TT ∧ True) hA H ⟨tv, tv, by exact len_ok (H.get 0 rfl), tv, tv⟩ fun a w72 hA H hG => ?_
     refine hK71 _ _ ?_
     refine go_cond hA (.tmp 63) (decide (k < ((pclassesE l ((vertsL l).getD i.toNat 0) ((vertsL l).getD j.toNat 0)).length : Int))) (fun hb73 => ?_) (fun hb73 => ?_)
     · have hhb73 := of_decide_eq_true hb73
       refine go_skip ?_
       refine hK70 _ _ ?_
       refine go_seq fun K74 hK74 => ?_
       refine go_block 5 ?_
       refine go_seq fun K75 hK75 => ?_
       obtain ⟨eu76, heu76c, heu76r⟩ := cell_sliceC (C := On w72) H.keepsS (H.getS 0 rfl) k
       replace H := (H.ro (heu76r (by omega) (by omega))).sink 1 5
       replace H : Fr _ _ _ [.ro v60 (pclassesE l ((vertsL l).getD i.toNat 0) ((vertsL l).getD j.toNat 0)), .ro v56 l, .ro v28 (vertsL l), .ro v24 l, .ro v11 l, .ro eu76 ((pclassesE l ((vertsL l).getD i.toNat 0) ((vertsL l).getD j.toNat 0)).getD k.toNat [])] := H
       refine q_reg [(69, eu76), (70, iv (((pclassesE l ((vertsL l).getD i.toNat 0) ((vertsL l).getD j.toNat 0)).getD k.toNat []).length : Int))] [(0, vl), (5, v28), (6, iv i), (7, iv j), (8, iv wd), (9, iv bt), (10, v60), (11, iv k), (71, .bool (decide ((1 : Int) < (((pclassesE l ((vertsL l).getD i.toNat 0) ((vertsL l).getD j.toNat 0)).getD k.toNat []).length : Int))))] (TT ∧ TT ∧ ((Try.prog.info? 27).isSome = true ∧ IdxOk v60 k) ∧ (CellOk (On w72) (hdB v60) (hdO v60 + k.toNat * 1) (eu76)) ∧ (LenOk eu76 (((pclassesE l ((vertsL l).getD i.toNat 0) ((vertsL l).getD j.toNat 0)).getD k.toNat []).length : Int)) ∧ TT ∧ True) hA H ⟨tv, tv, ⟨by kernel_rfl, by exact idx_ok (H.get 0 rfl) (by omega) (by omega)⟩, by exact heu76c (by omega) (by omega), by exact len_ok (H.get 5 rfl), tv, tv⟩ fun a w77 hA H hG => ?_
       refine hK75 _ _ ?_
       refine go_cond hA (.tmp 71) (decide ((1 : Int) < (((pclassesE l ((vertsL l).getD i.toNat 0) ((vertsL l).getD j.toNat 0)).getD k.toNat []).length : Int))) (fun hb78 => ?_) (fun hb78 => ?_)
       · have hhb78 := of_decide_eq_true hb78
         refine q_reg [] [(0, vl), (5, v28), (6, iv i), (7, iv j), (8, iv (wd + 1)), (9, iv bt), (10, v60), (11, iv k)] (TT ∧ (InR .i64 (wd + 1)) ∧ TT ∧ True) hA H ⟨tv, ⟨by omega, by omega⟩, tv, tv⟩ fun a w79 hA H hG => ?_
         refine hK74 _ _ ?_
         refine q_reg [] [(0, vl), (5, v28), (6, iv i), (7, iv j), (8, iv (wd + 1)), (9, iv bt), (10, v60), (11, iv (k + 1))] (TT ∧ (InR .i64 (k + 1)) ∧ TT ∧ True) hA H ⟨tv, ⟨by omega, by omega⟩, tv, tv⟩ fun a w80 hA H hG => ?_
         replace H := H.drop 5
         refine ⟨(k + 1, wd + 1, bt), ⟨env_sub _ hA, ⟨_, H⟩, ?_⟩, ?_⟩
         · (try dsimp only); exact ⟨by omega, by omega, by rw [hwd, wide_yes k0 (by omega) hhb78], by rw [hbt, betw_yes k0 (by omega) hhb78]⟩
         (try dsimp only); omega
       have hhb78 := of_decide_eq_false hb78
       refine q_reg [] [(0, vl), (5, v28), (6, iv i), (7, iv j), (8, iv wd), (9, iv (bt + 1)), (10, v60), (11, iv k)] (TT ∧ (InR .i64 (bt + 1)) ∧ TT ∧ True) hA H ⟨tv, ⟨by omega, by omega⟩, tv, tv⟩ fun a w81 hA H hG => ?_
       refine hK74 _ _ ?_
       refine q_reg [] [(0, vl), (5, v28), (6, iv i), (7, iv j), (8, iv wd), (9, iv (bt + 1)), (10, v60), (11, iv (k + 1))] (TT ∧ (InR .i64 (k + 1)) ∧ TT ∧ True) hA H ⟨tv, ⟨by omega, by omega⟩, tv, tv⟩ fun a w82 hA H hG => ?_
       replace H := H.drop 5
       refine ⟨(k + 1, wd, bt + 1), ⟨env_sub _ hA, ⟨_, H⟩, ?_⟩, ?_⟩
       · (try dsimp only); exact ⟨by omega, by omega, by rw [hwd, wide_no k0 (by omega) hhb78], by rw [hbt, betw_no k0 (by omega) hhb78]⟩
       (try dsimp only); omega
     have hhb73 := of_decide_eq_false hb73
     refine go_exit 4 ?_
     refine hK65 _ _ ?_
     refine go_seq fun K83 hK83 => ?_
     refine q_reg [] [(0, vl), (5, v28), (6, iv i), (7, iv j), (81, .bool ((!decide (wd = 1)) || (decide ((1 : Int) < bt))))] (TT ∧ TT ∧ TT ∧ ((!decide (wd = 1)) = false → True) ∧ ((!decide (wd = 1)) = false → True) ∧ TT ∧ True) hA H ⟨tv, tv, tv, fun _ => tv, fun _ => tv, tv, tv⟩ fun a w84 hA H hG => ?_
     refine hK83 _ _ ?_
     refine go_cond hA (.tmp 81) ((!decide (wd = 1)) || (decide ((1 : Int) < bt))) (fun hb85 => ?_) (fun hb85 => ?_)
     · have hhb85 := (oT hb85).imp (fun h => of_decide_eq_false (nT h)) (fun h => of_decide_eq_true h)
       rw [List.take_of_length_le (by omega)] at hwd hbt; omega
     have hhb85 := (⟨of_decide_eq_true (nF ((oF hb85).1)), of_decide_eq_false ((oF hb85).2)⟩ : _ ∧ _)
     refine go_skip ?_
     refine hK51 _ _ ?_
     refine q_reg [] [(0, vl), (5, v28), (6, iv i), (7, iv (j + 1))] (TT ∧ (InR .i64 (j + 1)) ∧ TT ∧ True) hA H ⟨tv, ⟨by omega, by omega⟩, tv, tv⟩ fun a w86 hA H hG => ?_
     replace H := H.drop 1
     replace H := H.drop 0
     refine ⟨(j + 1), ⟨env_sub _ hA, ⟨_, H⟩, ?_⟩, ?_⟩
     · (try dsimp only); show i < j + 1; omega
     (try dsimp only); omega
   have hhb50 := of_decide_eq_false hb50
   refine go_exit 2 ?_
   refine hK42 _ _ ?_
   refine q_reg [] [(0, vl), (5, v28), (6, iv (i + 1))] (TT ∧ (InR .i64 (i + 1)) ∧ TT ∧ True) hA H ⟨tv, ⟨by omega, by omega⟩, tv, tv⟩ fun a w87 hA H hG => ?_
   refine ⟨(i + 1), ⟨env_sub _ hA, ⟨_, H⟩, ?_⟩, ?_⟩
   · (try dsimp only); show (0 : Int) ≤ i + 1; omega
   (try dsimp only); omega
 have hhb41 := of_decide_eq_false hb41
 refine go_exit 0 ?_
 refine hK33 _ _ ?_
 refine go_seq fun K88 hK88 => ?_
 refine q_reg [(83, iv ((vertsL l).length : Int))] [(2, .bool (decide ((4 : Int) ≤ ((vertsL l).length : Int))))] (TT ∧ (LenOk v28 ((vertsL l).length : Int)) ∧ TT ∧ TT ∧ True) hA H ⟨tv, by exact len_ok (H.get 0 rfl), tv, tv, tv⟩ fun a w89 hA H hG => ?_
 refine hK88 _ _ ?_
 refine go_ret_ ?_
 refine ret_one 2 (.bool (decide ((4 : Int) ≤ ((vertsL l).length : Int)))) hA ?_
 exact ans_b' (decide_eq_true (by have := rig_four hR; omega)) H.below
end Go.Proofs.Ytahonnlgkmimlaa
