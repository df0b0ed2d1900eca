/-
  Texts joined by program: PairI, WalkB10, WalkB11, WalkB12, WalkQ4, WalkQ5, WalkQ6, WalkQ7, WalkQ8, PairJ, WalkQ9, WalkQ10, PairK, WalkQ11.
-/
import Derived.Test.YtahonnlgkmimlaaProg
import Derived.Test.YtahonnlgkmimlaaJPairClasses7
set_option linter.unusedSimpArgs false
set_option linter.unusedVariables false
namespace Go.Proofs.Ytahonnlgkmimlaa
open Go.RowKit

theorem solid_ref {n : Int} {E : List (Int × Int)} {V L : List Int} (h : partE n E V L = 0) :
    (decide (((blocksL n E V L).length : Int) = 1) && (decide (((blocksL n E V L).getD (0 : Int).toNat ([], [])).1 = V) && decide (((blocksL n E V L).getD (0 : Int).toNat ([], [])).2 = L))) = solidB n E V L := by
  unfold solidB blocksE
  rw [if_neg (by omega), h]
  simp
theorem eK_len (l : List Lk) : (eK l).length = l.length := by simp [eK]
theorem eK_getD {l : List Lk} {i : Nat} (h : i < l.length) : (eK l).getD i (0, 0) = ((l.getD i (0, (0, 0))).1, (l.getD i (0, (0, 0))).2.1) := by
  unfold eK
  rw [List.getD_eq_getElem?_getD, List.getElem?_map, List.getElem?_eq_getElem h, List.getD_eq_getElem?_getD, List.getElem?_eq_getElem h]; rfl
theorem ends_eK (l : List Lk) : endsL (eK l) (upto (l.length : Int)) = endsK l := by
  have key : ∀ k : Nat, k ≤ l.length → endsL (eK l) (upto (k : Int)) = endsK (l.take k) := by
    intro k
    induction k with
    | zero => intro _; rfl
    | succ k ih =>
      intro hk
      have e := endsK_snoc (l := l) (i := (k : Int)) (by omega) (by omega)
      rw [show ((k : Int) + 1).toNat = k + 1 by omega, Int.toNat_natCast] at e
      rw [show ((k + 1 : Nat) : Int) = (k : Int) + 1 by omega, upto_succ (by omega), e, ← ih (by omega)]
      unfold endsL
      rw [List.flatMap_append, List.flatMap_cons, List.flatMap_nil, List.append_nil, Int.toNat_natCast, eK_getD (by omega)]
      rfl
  have := key l.length (Nat.le_refl _)
  rwa [List.take_length] at this
theorem span_K {l : List Lk} (h : rightE (nK l) (eK l) = 0) : spanE (nK l) (eK l) (upto (l.length : Int)) = ((vertsL l, upto (l.length : Int)), 0) := by
  unfold spanE
  rw [if_neg (by omega), if_neg (fun q => q (upto_rises (by rw [eK_len]; omega))), ends_eK]; rfl
theorem wholeR_K {l : List Lk} (h : okWh l) (h2 : rightE (nK l) (eK l) = 0) : wholeR l = (((nK l, eK l), (vertsL l, upto (l.length : Int))), true) := by
  rw [wholeR_ok h, span_K h2]; rfl
theorem rk_ok {l : List Lk} (h : okWh l) (h2 : rightE (nK l) (eK l) = 0) : rightK l = solidB (nK l) (eK l) (vertsL l) (upto (l.length : Int)) := by
  unfold rightK; rw [wholeR_K h h2]; rfl
theorem rk_wh {l : List Lk} (h : rightK l = true) : okWh l ∧ rightE (nK l) (eK l) = 0 := by
  unfold rightK at h
  rw [Bool.and_eq_true] at h
  have hW := whole_facts h.1 h.2
  refine ⟨hW.wh, ?_⟩
  have h1 := h.1
  rw [wholeR_ok hW.wh] at h1
  have h1 : (spanE (nK l) (eK l) (upto (l.length : Int))).2 = 0 := of_decide_eq_true h1
  unfold spanE at h1
  by_cases q : rightE (nK l) (eK l) = 0
  · exact q
  · rw [if_pos q] at h1; exact h1
theorem rk_not {l : List Lk} {i : Nat} (hi : i < l.length) (h : ¬ okLk l i) : rightK l = false := Bool.eq_false_iff.2 fun q => h ((rk_wh q).1 i hi)
theorem rk_err {l : List Lk} (h : ¬ rightE (nK l) (eK l) = 0) : rightK l = false := Bool.eq_false_iff.2 fun q => h (rk_wh q).2
theorem rk_big {l : List Lk} (h : (1024 : Int) < (l.length : Int)) : rightK l = false := Bool.eq_false_iff.2 fun q => by
  have := rightE_0 (rk_wh q).2
  rw [eK_len] at this; omega
theorem part_K {l : List Lk} (h2 : rightE (nK l) (eK l) = 0) : partE (nK l) (eK l) (vertsL l) (upto (l.length : Int)) = 0 := by
  obtain ⟨a, b, c, d⟩ := rightE_0 h2
  refine part_iff.2 ⟨h2, ?_, upto_rises (by rw [eK_len]; omega), fun e he v hv => ?_⟩
  · obtain ⟨h3, h4⟩ := compact_sort (endsK l)
    refine rises_iff.2 ⟨h3, fun x hx => ?_⟩
    have hx := (h4 x).1 hx
    rw [← ends_eK] at hx
    obtain ⟨e, he, ht⟩ := mem_endsL.1 hx
    have he := mem_upto.1 he
    have hk := d e.toNat (by rw [eK_len]; omega)
    unfold okE at hk
    rcases ht with ht | ht <;> omega
  · obtain ⟨h3, h4⟩ := compact_sort (endsK l)
    refine (h4 v).2 ?_
    rw [← ends_eK]
    exact mem_endsL.2 ⟨e, he, hv⟩
theorem okLk_mk {l : List Lk} {i : Int} (hi : 0 ≤ i) (h1 : ∀ q : Nat, (q : Int) < i → lkI l (q : Int) ≠ lkI l i) (h2 : ¬ (lkA l i < 0)) (h3 : ¬ (lkB l i < 0)) (h4 : ¬ (1024 ≤ lkA l i)) (h5 : ¬ (1024 ≤ lkB l i)) (h6 : ¬ lkA l i = lkB l i) : okLk l i.toNat := by
  refine ⟨fun j hj => ?_, by unfold lkA at h2; omega, by unfold lkB at h3; omega, by unfold lkA lkB at h6; exact h6, by unfold lkA at h4; unfold lkB at h5; omega⟩
  have := h1 j (by omega)
  unfold lkI at this
  rwa [Int.toNat_natCast] at this
theorem okLk_no {l : List Lk} {i : Int} (h : (((lkA l i < 0 ∨ lkB l i < 0) ∨ 1024 ≤ lkA l i) ∨ 1024 ≤ lkB l i) ∨ lkA l i = lkB l i) : ¬ okLk l i.toNat := by
  rintro ⟨_, h1, h2, h3, h4⟩
  unfold lkA lkB at h
  omega
theorem okLk_twice {l : List Lk} {i k : Int} (h0 : 0 ≤ k) (hk : k < i) (h : lkI l k = lkI l i) : ¬ okLk l i.toNat := by
  rintro ⟨h1, _⟩
  exact h1 k.toNat (by omega) h
-- ---- splits
section
variable {l : List Lk} {E C : List Int} {i k j u v : Int} {out r X : List (Int × Int × List Int)}
end
end Go.Proofs.Ytahonnlgkmimlaa

set_option linter.unusedSimpArgs false
set_option linter.unusedVariables false
namespace Go.Proofs.Ytahonnlgkmimlaa
open Go.RowKit

set_option maxRecDepth 100000 in
set_option maxHeartbeats 4000000 in
theorem spread_any (n : Int) (ve : Value) (E : List (Int × Int)) (vv vl : Value) (V L : List Int) (vf : Value) (x0 but : Int) (o : Orig) (hn : -9223372036854775808 ≤ n ∧ n ≤ 9223372036854775807) (hE : Rd (· < o.w.heap.size) o.w ve E) (hV : Rd (· < o.w.heap.size) o.w vv V) (hL : Rd (· < o.w.heap.size) o.w vl L) (hF : Rd (· < o.w.heap.size) o.w vf [x0]) (hpt : partE n E V L = 0) (hab : x0 ≠ but) (haU : x0 ∈ endsL E L) :
  Calls Try.prog 131 [.agg #[.int .i64 n, ve], .agg #[vv, vl], vf, .int .i64 but].toArray o.w (Giv o (fun S v w' => Rd S w' v (spread E L x0 but))) := by
  obtain ⟨hp1, hp2, hp3, hp4⟩ := partE_0 hpt
  have hr9 := rightE_0 hp1
  have hl9 := rises_len hp3 (by omega)
  refine enter Try.f131 89 Try.func131 fun a hA => ?_
  replace hA := env_sub [(0, .agg #[.int .i64 n, ve]), (1, .agg #[vv, vl]), (2, vf), (3, .int .i64 but)] hA
  have H := Fr.start o
  refine go_seq fun K1 hK1 => ?_
  refine region_list ?_
  refine list_at 0 ?_; refine q_box 0 4 24 (.tmp 0) (.agg #[.int .i64 n, ve]) [.int .i64 n, ve] [(1, .agg #[vv, vl]), (2, vf), (3, .int .i64 but)] hA H fun b2 a w3 H hA hG hge_b2 => ?_
  clear hge_b2
  refine list_at 1 ?_; refine q_box 1 5 29 (.tmp 1) (.agg #[vv, vl]) [vv, vl] [(2, vf), (3, .int .i64 but), (4, .pointer (some ⟨b2, 0, none⟩))] hA H fun b4 a w5 H hA hG hge_b4 => ?_
  clear hge_b4
  refine q_list 2 1 [] [(2, vf), (3, .int .i64 but), (4, .pointer (some ⟨b2, 0, none⟩)), (5, .pointer (some ⟨b4, 0, none⟩))] ((True) ∧ True) hA H ⟨trivial, trivial⟩ fun a w6 hA H hG => ?_
  refine list_end ?_
  refine hK1 _ _ ?_
  refine go_seq fun K7 hK7 => ?_
  refine q_reg [] [(2, vf), (3, .int .i64 but), (4, .pointer (some ⟨b2, 0, none⟩)), (5, .pointer (some ⟨b4, 0, none⟩)), (9, (.slice none 0 0))] ((True) ∧ True) hA H ⟨trivial, trivial⟩ fun a w8 hA H hG => ?_
  refine hK7 _ _ ?_
  refine go_seq fun K9 hK9 => ?_
  replace H := H.newRow (α := Int) 3
  replace H : Fr _ _ _ [.row 3 (.slice none 0 0) ([] : List Int), .box b4 29 [vv, vl], .box b2 24 [.int .i64 n, ve]] := H
  refine region_list ?_
  refine q_list 0 2 [] [(3, .int .i64 but), (4, .pointer (some ⟨b2, 0, none⟩)), (5, .pointer (some ⟨b4, 0, none⟩)), (13, (.slice none 0 0)), (14, vf)] ((True) ∧ (True) ∧ True) hA H ⟨trivial, trivial, trivial⟩ fun a w10 hA H hG => ?_
  refine list_at 2 ?_; refine q_pushS 2 15 (.tmp 13) (.tmp 14) 0 (.slice none 0 0) vf ([] : List Int) [x0] [(3, .int .i64 but), (4, .pointer (some ⟨b2, 0, none⟩)), (5, .pointer (some ⟨b4, 0, none⟩))] hA H Try.E27 rfl (H.arg hF) (by simp only [List.length_cons, List.length_nil, List.length_append]; omega) (by decide) (fun _ _ h => h) fun v11 a w12 H hA hG => ?_
  replace H : Fr _ _ _ [.row 3 v11 (([] : List Int) ++ [x0]), .box b4 29 [vv, vl], .box b2 24 [.int .i64 n, ve]] := H
  refine q_list 3 1 [] [(3, .int .i64 but), (4, .pointer (some ⟨b2, 0, none⟩)), (5, .pointer (some ⟨b4, 0, none⟩)), (9, v11)] ((True) ∧ True) hA H ⟨trivial, trivial⟩ fun a w13 hA H hG => ?_
  refine list_end ?_
  refine hK9 _ _ ?_
  refine go_seq fun K14 hK14 => ?_
  refine go_seq fun K15 hK15 => ?_
  refine q_reg [] [(3, .int .i64 but), (4, .pointer (some ⟨b2, 0, none⟩)), (5, .pointer (some ⟨b4, 0, none⟩)), (9, v11), (10, .int .i64 0)] ((True) ∧ True) hA H ⟨trivial, trivial⟩ fun a w16 hA H hG => ?_
  refine hK15 _ _ ?_
  refine go_block 0 ?_
  refine go_loop_ (Int × Value × List Int) (fun x_ a W => (fun (i : Int) (vr : Value) (m : List Int) => EnvOk 89 a (keepEnv [(3, .int .i64 but), (4, .pointer (some ⟨b2, 0, none⟩)), (5, .pointer (some ⟨b4, 0, none⟩)), (9, vr), (10, .int .i64 i)]) ∧ (∃ S, Fr o W S [.row 3 vr m, .box b4 29 [vv, vl], .box b2 24 [.int .i64 n, ve]]) ∧ 0 ≤ i ∧ i ≤ (m.length : Int) ∧ Sp (grE E L) x0 but (endsL E L) m ∧ spF E L but (2 * L.length + 1 - i.toNat) i.toNat m = spread E L x0 but) x_.1 x_.2.1 x_.2.2) (fun x_ => (fun (i : Int) (vr : Value) (m : List Int) => (2 * (L.length : Int) + 1 - i).toNat) x_.1 x_.2.1 x_.2.2) (0, v11, [x0]) ?_ (fun x_ a w18 hI => ?_)
  · (try dsimp only); exact ⟨env_sub _ hA, ⟨_, H⟩, by omega, by simp, sp_first hab haU, rfl⟩
  obtain ⟨i, vr, m⟩ := x_
  obtain ⟨hA, ⟨S, H⟩, h0, h0b, hsp, hsf⟩ := hI
  try dsimp only at h0 h0b hsp hsf
  have hml := sp_len hsp
  refine go_seq fun K19 hK19 => ?_
  refine go_seq fun K20 hK20 => ?_
  refine q_reg [(18, .int .i64 (m.length : Int))] [(3, .int .i64 but), (4, .pointer (some ⟨b2, 0, none⟩)), (5, .pointer (some ⟨b4, 0, none⟩)), (9, vr), (10, .int .i64 i), (19, .bool (decide (i < (m.length : Int))))] ((True) ∧ (True) ∧ (LenOk vr (m.length : Int)) ∧ (True) ∧ True) hA H ⟨trivial, trivial, by exact len_ok (H.out 0 rfl), trivial, trivial⟩ fun a w21 hA H hG => ?_
  refine hK20 _ _ ?_
  refine go_cond hA (.tmp 19) (decide (i < (m.length : Int))) (fun hb22 => ?_) (fun hb22 => ?_)
  · have hhb22 := of_decide_eq_true hb22
    refine go_skip ?_
    refine hK19 _ _ ?_
    refine go_seq fun K23 hK23 => ?_
    refine go_block 1 ?_
    refine go_seq fun K24 hK24 => ?_
    refine q_reg [] [(3, .int .i64 but), (4, .pointer (some ⟨b2, 0, none⟩)), (5, .pointer (some ⟨b4, 0, none⟩)), (9, vr), (10, .int .i64 i), (11, .int .i64 0)] ((True) ∧ True) hA H ⟨trivial, trivial⟩ fun a w25 hA H hG => ?_
    refine hK24 _ _ ?_
    refine go_block 2 ?_
    refine go_loop_ (Int × Value × List Int) (fun x_ a W => (fun (k : Int) (vr2 : Value) (m2 : List Int) => EnvOk 89 a (keepEnv [(3, .int .i64 but), (4, .pointer (some ⟨b2, 0, none⟩)), (5, .pointer (some ⟨b4, 0, none⟩)), (9, vr2), (10, .int .i64 i), (11, .int .i64 k)]) ∧ (∃ S, Fr o W S [.row 3 vr2 m2, .box b4 29 [vv, vl], .box b2 24 [.int .i64 n, ve]]) ∧ 0 ≤ k ∧ k ≤ (L.length : Int) ∧ m2 = spRound E but i.toNat (L.take k.toNat) m) x_.1 x_.2.1 x_.2.2) (fun x_ => (fun (k : Int) (vr2 : Value) (m2 : List Int) => ((L.length : Int) - k).toNat) x_.1 x_.2.1 x_.2.2) (0, vr, m) ?_ (fun x_ a w27 hI => ?_)
    · (try dsimp only); exact ⟨env_sub _ hA, ⟨_, H⟩, by omega, by omega, by simp [spRound]⟩
    obtain ⟨k, vr2, m2⟩ := x_
    obtain ⟨hA, ⟨S, H⟩, k0, k0b, hm2⟩ := hI
    try dsimp only at k0 k0b hm2
    obtain ⟨hsp2, hr2, _⟩ := sp_round (i := i.toNat) (but := but) (sp_ends (E := E) (L := L)) (l := L.take k.toNat) (fun x hx => List.mem_of_mem_take hx) hsp (by omega)
    rw [← hm2] at hsp2 hr2
    have hml2 := sp_len hsp2
    have hr3 : m.length ≤ m2.length := by obtain ⟨r9, e9⟩ := hr2; rw [e9, List.length_append]; omega
    replace hr2 : True ∧ ∃ r, m2 = m ++ r := ⟨trivial, hr2⟩
    refine go_seq fun K28 hK28 => ?_
    refine go_seq fun K29 hK29 => ?_
    refine q_reg [(24, vl), (25, .int .i64 (L.length : Int))] [(3, .int .i64 but), (4, .pointer (some ⟨b2, 0, none⟩)), (5, .pointer (some ⟨b4, 0, none⟩)), (9, vr2), (10, .int .i64 i), (11, .int .i64 k), (26, .bool (decide (k < (L.length : Int))))] ((True) ∧ (0 < Try.prog.cellsOf 27) ∧ (CellOk (On w27) b4 (0 + 1) (vl)) ∧ (LenOk vl (L.length : Int)) ∧ (True) ∧ True) hA H ⟨trivial, by decide +kernel, by exact box_cell H 1 rfl 1, by exact len_ok (H.arg hL), trivial, trivial⟩ fun a w30 hA H hG => ?_
    refine hK29 _ _ ?_
    refine go_cond hA (.tmp 26) (decide (k < (L.length : Int))) (fun hb31 => ?_) (fun hb31 => ?_)
    · have hhb31 := of_decide_eq_true hb31
      refine go_skip ?_
      refine hK28 _ _ ?_
      refine go_seq fun K32 hK32 => ?_
      refine go_block 3 ?_
      refine go_seq fun K33 hK33 => ?_
      have hx := hp3 k.toNat (by omega)
      have H0 := H
      have hM0 := H0.keeps none (.inl rfl)
      refine region_mix (But w30 none) [0, 1, 2, 3, 4, 5, 6, 7, 8, 9] 11 ?_
      replace H := H.drawn; have hD := But.drew w30 none
      generalize ({ w30 with drawn := w30.drawn + 1 } : World) = w34 at H hD ⊢
      refine m_take (n := 2) [0, 1, 2, 3, 4, 5, 6, 7, 8] #[true, true, true, true, true, true, true, true, true, false, false] [(30, ve), (32, vl), (35, .int .i64 (L.getD k.toNat 0)), (37, .agg #[.int .i64 ((E.getD (L.getD k.toNat 0).toNat (0, 0)).1), .int .i64 ((E.getD (L.getD k.toNat 0).toNat (0, 0)).2)])] [(3, .int .i64 but), (4, .pointer (some ⟨b2, 0, none⟩)), (5, .pointer (some ⟨b4, 0, none⟩)), (9, vr2), (10, .int .i64 i), (11, .int .i64 k), (37, .agg #[.int .i64 ((E.getD (L.getD k.toNat 0).toNat (0, 0)).1), .int .i64 ((E.getD (L.getD k.toNat 0).toNat (0, 0)).2)])] ((0 < Try.prog.cellsOf 22) ∧ (CellOk (But w30 none) b2 (0 + 1) (ve)) ∧ (0 < Try.prog.cellsOf 27) ∧ (CellOk (But w30 none) b4 (0 + 1) (vl)) ∧ (True) ∧ ((Try.prog.info? 3).isSome = true ∧ IdxOk vl k) ∧ (CellOk (But w30 none) (hdB vl) (hdO vl + k.toNat * 1) (.int .i64 (L.getD k.toNat 0))) ∧ ((Try.prog.info? 99).isSome = true ∧ IdxOk ve (L.getD k.toNat 0)) ∧ ((Try.prog.info? 99).isSome = true ∧ RowOk (But w30 none) (hdB ve) (hdO ve + (L.getD k.toNat 0).toNat * 2) (Try.prog.cellsOf 99) #[.int .i64 ((E.getD (L.getD k.toNat 0).toNat (0, 0)).1), .int .i64 ((E.getD (L.getD k.toNat 0).toNat (0, 0)).2)]) ∧ True) hA hD ⟨by decide +kernel, by exact box_cellC (box_atC H0 none 2 rfl (fun e => by cases e)) 1, by decide +kernel, by exact box_cellC (box_atC H0 none 1 rfl (fun e => by cases e)) 1, trivial, ⟨by kernel_rfl, by exact idx_ok (H0.argT hL) (by omega) (by omega)⟩, by exact cell_flatC hM0 (i := k) (H0.argT hL) (by omega) (by omega) 0 0, ⟨by kernel_rfl, by exact idx_ok (H0.argT hE) (by omega) (by omega)⟩, ⟨by kernel_rfl, by exact row_flatC hM0 (i := (L.getD k.toNat 0)) (H0.argT hE) (by omega) (by omega) (0, 0)⟩, trivial⟩ fun a hA => ?_
      refine m_one 9 ?_; refine q_alloc 9 12 99 [.int .i64 0, .int .i64 0] [(3, .int .i64 but), (4, .pointer (some ⟨b2, 0, none⟩)), (5, .pointer (some ⟨b4, 0, none⟩)), (9, vr2), (10, .int .i64 i), (11, .int .i64 k), (37, .agg #[.int .i64 ((E.getD (L.getD k.toNat 0).toNat (0, 0)).1), .int .i64 ((E.getD (L.getD k.toNat 0).toNat (0, 0)).2)])] hA H fun b35 a w36 H hA hG hge_b35 => ?_
      replace hge_b35 := Nat.le_trans hD.1 hge_b35
      replace hD := hD.below hG
      refine ⟨fun _ => hD, ?_⟩
      refine m_one 10 ?_; refine q_store 10 99 (.tmp 12) (.tmp 37) 0 b35 (0) 99 [.int .i64 0, .int .i64 0] [.int .i64 ((E.getD (L.getD k.toNat 0).toNat (0, 0)).1), .int .i64 ((E.getD (L.getD k.toNat 0).toNat (0, 0)).2)] [.int .i64 ((E.getD (L.getD k.toNat 0).toNat (0, 0)).1), .int .i64 ((E.getD (L.getD k.toNat 0).toNat (0, 0)).2)] (.agg #[.int .i64 ((E.getD (L.getD k.toNat 0).toNat (0, 0)).1), .int .i64 ((E.getD (L.getD k.toNat 0).toNat (0, 0)).2)]) [(3, .int .i64 but), (4, .pointer (some ⟨b2, 0, none⟩)), (5, .pointer (some ⟨b4, 0, none⟩)), (9, vr2), (10, .int .i64 i), (11, .int .i64 k), (12, .pointer (some ⟨b35, 0, none⟩))] hA H rfl rfl (Nat.le_of_ble_eq_true (by kernel_rfl)) rfl (fun v hv => by simp only [List.mem_cons, List.not_mem_nil, or_false] at hv; rcases hv with rfl | rfl; exact rfl; exact rfl) fun a w37 H hA hG => ?_
      replace H : Fr _ _ _ [.box b35 99 [.int .i64 ((E.getD (L.getD k.toNat 0).toNat (0, 0)).1), .int .i64 ((E.getD (L.getD k.toNat 0).toNat (0, 0)).2)], .row 3 vr2 m2, .box b4 29 [vv, vl], .box b2 24 [.int .i64 n, ve]] := H
      refine ⟨fun h => absurd h (by decide), ?_⟩
      refine m_end ?_
      refine hK33 _ _ ?_
      refine go_seq fun K38 hK38 => ?_
      refine go_seq fun K39 hK39 => ?_
      refine q_draw [(39, .int .i64 ((E.getD (L.getD k.toNat 0).toNat (0, 0)).1)), (43, .int .i64 (m2.getD i.toNat 0)), (47, .int .i64 ((E.getD (L.getD k.toNat 0).toNat (0, 0)).2)), (54, .int .i64 ((E.getD (L.getD k.toNat 0).toNat (0, 0)).2)), (55, .bool (decide ((E.getD (L.getD k.toNat 0).toNat (0, 0)).2 ∈ m2)))] [(3, .int .i64 but), (4, .pointer (some ⟨b2, 0, none⟩)), (5, .pointer (some ⟨b4, 0, none⟩)), (9, vr2), (10, .int .i64 i), (11, .int .i64 k), (12, .pointer (some ⟨b35, 0, none⟩)), (57, .bool (((decide ((E.getD (L.getD k.toNat 0).toNat (0, 0)).1 = (m2.getD i.toNat 0))) && (!decide ((E.getD (L.getD k.toNat 0).toNat (0, 0)).2 = but))) && (!(decide ((E.getD (L.getD k.toNat 0).toNat (0, 0)).2 ∈ m2)))))] ((0 < Try.prog.cellsOf 3) ∧ (CellOk (On w37) b35 (0 + 0) (.int .i64 ((E.getD (L.getD k.toNat 0).toNat (0, 0)).1))) ∧ (True) ∧ (True) ∧ ((Try.prog.info? 3).isSome = true ∧ IdxOk vr2 i) ∧ (CellOk (On w37) (hdB vr2) (hdO vr2 + i.toNat * 1) (.int .i64 (m2.getD i.toNat 0))) ∧ (True) ∧ (True) ∧ ((decide ((E.getD (L.getD k.toNat 0).toNat (0, 0)).1 = (m2.getD i.toNat 0))) = true → 0 < Try.prog.cellsOf 3) ∧ ((decide ((E.getD (L.getD k.toNat 0).toNat (0, 0)).1 = (m2.getD i.toNat 0))) = true → CellOk (On w37) b35 (0 + 1) (.int .i64 ((E.getD (L.getD k.toNat 0).toNat (0, 0)).2))) ∧ ((decide ((E.getD (L.getD k.toNat 0).toNat (0, 0)).1 = (m2.getD i.toNat 0))) = true → True) ∧ ((decide ((E.getD (L.getD k.toNat 0).toNat (0, 0)).1 = (m2.getD i.toNat 0))) = true → True) ∧ (True) ∧ (True) ∧ (((decide ((E.getD (L.getD k.toNat 0).toNat (0, 0)).1 = (m2.getD i.toNat 0))) && (!decide ((E.getD (L.getD k.toNat 0).toNat (0, 0)).2 = but))) = true → True) ∧ (((decide ((E.getD (L.getD k.toNat 0).toNat (0, 0)).1 = (m2.getD i.toNat 0))) && (!decide ((E.getD (L.getD k.toNat 0).toNat (0, 0)).2 = but))) = true → 0 < Try.prog.cellsOf 3) ∧ (((decide ((E.getD (L.getD k.toNat 0).toNat (0, 0)).1 = (m2.getD i.toNat 0))) && (!decide ((E.getD (L.getD k.toNat 0).toNat (0, 0)).2 = but))) = true → CellOk (On w37) b35 (0 + 1) (.int .i64 ((E.getD (L.getD k.toNat 0).toNat (0, 0)).2))) ∧ (((decide ((E.getD (L.getD k.toNat 0).toNat (0, 0)).1 = (m2.getD i.toNat 0))) && (!decide ((E.getD (L.getD k.toNat 0).toNat (0, 0)).2 = but))) = true → Callable Try.prog 24 ∧ CallOk Try.prog (On w37) 24 [vr2, .int .i64 ((E.getD (L.getD k.toNat 0).toNat (0, 0)).2)].toArray (.bool (decide ((E.getD (L.getD k.toNat 0).toNat (0, 0)).2 ∈ m2)))) ∧ (((decide ((E.getD (L.getD k.toNat 0).toNat (0, 0)).1 = (m2.getD i.toNat 0))) && (!decide ((E.getD (L.getD k.toNat 0).toNat (0, 0)).2 = but))) = true → True) ∧ (True) ∧ True) hA H ⟨by decide +kernel, by exact box_cell H 0 rfl 0, trivial, trivial, ⟨by kernel_rfl, by exact idx_ok (H.out 1 rfl) (by omega) (by omega)⟩, by exact cell_flat (i := i) (H.out 1 rfl) (by omega) (by omega) 0 0, trivial, trivial, fun _ => by decide +kernel, fun _ => by exact box_cell H 0 rfl 1, fun _ => trivial, fun _ => trivial, trivial, trivial, fun _ => trivial, fun _ => by decide +kernel, fun _ => by exact box_cell H 0 rfl 1, fun _ => ⟨callable_of, callOk_of fun w hw => by exact in_any vr2 m2 ((E.getD (L.getD k.toNat 0).toNat (0, 0)).2) w (((H.on hw).out 1 rfl))⟩, fun _ => trivial, trivial, trivial⟩ fun a w40 hA H hG => ?_
      refine hK39 _ _ ?_
      refine go_cond hA (.tmp 57) (((decide ((E.getD (L.getD k.toNat 0).toNat (0, 0)).1 = (m2.getD i.toNat 0))) && (!decide ((E.getD (L.getD k.toNat 0).toNat (0, 0)).2 = but))) && (!(decide ((E.getD (L.getD k.toNat 0).toNat (0, 0)).2 ∈ m2)))) (fun hb41 => ?_) (fun hb41 => ?_)
      · have hhb41 := (⟨(⟨of_decide_eq_true ((aT ((aT hb41).1)).1), of_decide_eq_false (nT ((aT ((aT hb41).1)).2))⟩ : _ ∧ _), of_decide_eq_false (nT ((aT hb41).2))⟩ : _ ∧ _)
        refine region_list ?_
        refine q_list 0 3 [(60, .int .i64 ((E.getD (L.getD k.toNat 0).toNat (0, 0)).2))] [(3, .int .i64 but), (4, .pointer (some ⟨b2, 0, none⟩)), (5, .pointer (some ⟨b4, 0, none⟩)), (10, .int .i64 i), (11, .int .i64 k), (12, .pointer (some ⟨b35, 0, none⟩)), (58, vr2), (60, .int .i64 ((E.getD (L.getD k.toNat 0).toNat (0, 0)).2))] ((True) ∧ (0 < Try.prog.cellsOf 3) ∧ (CellOk (On w40) b35 (0 + 1) (.int .i64 ((E.getD (L.getD k.toNat 0).toNat (0, 0)).2))) ∧ True) hA H ⟨trivial, by decide +kernel, by exact box_cell H 0 rfl 1, trivial⟩ fun a w42 hA H hG => ?_
        refine list_at 3 ?_; refine q_lit 3 61 27 1 #[(0, .tmp 60)] 3 [(0, .int .i64 ((E.getD (L.getD k.toNat 0).toNat (0, 0)).2))] [.int .i64 ((E.getD (L.getD k.toNat 0).toNat (0, 0)).2)] [(3, .int .i64 but), (4, .pointer (some ⟨b2, 0, none⟩)), (5, .pointer (some ⟨b4, 0, none⟩)), (10, .int .i64 i), (11, .int .i64 k), (12, .pointer (some ⟨b35, 0, none⟩)), (58, vr2)] hA H fun b43 a w44 H hA hG hge_b43 => ?_
        clear hge_b43
        refine list_at 4 ?_; refine q_push 4 62 (.tmp 58) (.tmp 61) 2 0 b43 1 1 vr2 m2 [(E.getD (L.getD k.toNat 0).toNat (0, 0)).2] [.int .i64 ((E.getD (L.getD k.toNat 0).toNat (0, 0)).2)] [(3, .int .i64 but), (4, .pointer (some ⟨b2, 0, none⟩)), (5, .pointer (some ⟨b4, 0, none⟩)), (10, .int .i64 i), (11, .int .i64 k), (12, .pointer (some ⟨b35, 0, none⟩))] hA H Try.E27 rfl rfl (by exact (RowRd.single (α := Int) rfl)) rfl (by simp only [List.length_cons, List.length_nil, List.length_append]; omega) (by decide) fun v45 a w46 H hA hG => ?_
        replace H : Fr _ _ _ [.box b35 99 [.int .i64 ((E.getD (L.getD k.toNat 0).toNat (0, 0)).1), .int .i64 ((E.getD (L.getD k.toNat 0).toNat (0, 0)).2)], .row 3 v45 (m2 ++ [(E.getD (L.getD k.toNat 0).toNat (0, 0)).2]), .box b4 29 [vv, vl], .box b2 24 [.int .i64 n, ve]] := H.drop 0
        refine q_list 5 1 [] [(3, .int .i64 but), (4, .pointer (some ⟨b2, 0, none⟩)), (5, .pointer (some ⟨b4, 0, none⟩)), (9, v45), (10, .int .i64 i), (11, .int .i64 k), (12, .pointer (some ⟨b35, 0, none⟩))] ((True) ∧ True) hA H ⟨trivial, trivial⟩ fun a w47 hA H hG => ?_
        refine list_end ?_
        refine hK38 _ _ ?_
        refine go_seq fun K48 hK48 => ?_
        have hapl : (m2 ++ [(E.getD (L.getD k.toNat 0).toNat (0, 0)).2]).length = m2.length + 1 := by simp
        refine q_draw [(64, .int .i64 ((E.getD (L.getD k.toNat 0).toNat (0, 0)).2)), (68, .int .i64 ((m2 ++ [(E.getD (L.getD k.toNat 0).toNat (0, 0)).2]).getD i.toNat 0)), (72, .int .i64 ((E.getD (L.getD k.toNat 0).toNat (0, 0)).1)), (79, .int .i64 ((E.getD (L.getD k.toNat 0).toNat (0, 0)).1)), (80, .bool (decide ((E.getD (L.getD k.toNat 0).toNat (0, 0)).1 ∈ (m2 ++ [(E.getD (L.getD k.toNat 0).toNat (0, 0)).2]))))] [(3, .int .i64 but), (4, .pointer (some ⟨b2, 0, none⟩)), (5, .pointer (some ⟨b4, 0, none⟩)), (9, v45), (10, .int .i64 i), (11, .int .i64 k), (12, .pointer (some ⟨b35, 0, none⟩)), (82, .bool (((decide ((E.getD (L.getD k.toNat 0).toNat (0, 0)).2 = ((m2 ++ [(E.getD (L.getD k.toNat 0).toNat (0, 0)).2]).getD i.toNat 0))) && (!decide ((E.getD (L.getD k.toNat 0).toNat (0, 0)).1 = but))) && (!(decide ((E.getD (L.getD k.toNat 0).toNat (0, 0)).1 ∈ (m2 ++ [(E.getD (L.getD k.toNat 0).toNat (0, 0)).2]))))))] ((0 < Try.prog.cellsOf 3) ∧ (CellOk (On w47) b35 (0 + 1) (.int .i64 ((E.getD (L.getD k.toNat 0).toNat (0, 0)).2))) ∧ (True) ∧ (True) ∧ ((Try.prog.info? 3).isSome = true ∧ IdxOk v45 i) ∧ (CellOk (On w47) (hdB v45) (hdO v45 + i.toNat * 1) (.int .i64 ((m2 ++ [(E.getD (L.getD k.toNat 0).toNat (0, 0)).2]).getD i.toNat 0))) ∧ (True) ∧ (True) ∧ ((decide ((E.getD (L.getD k.toNat 0).toNat (0, 0)).2 = ((m2 ++ [(E.getD (L.getD k.toNat 0).toNat (0, 0)).2]).getD i.toNat 0))) = true → 0 < Try.prog.cellsOf 3) ∧ ((decide ((E.getD (L.getD k.toNat 0).toNat (0, 0)).2 = ((m2 ++ [(E.getD (L.getD k.toNat 0).toNat (0, 0)).2]).getD i.toNat 0))) = true → CellOk (On w47) b35 (0 + 0) (.int .i64 ((E.getD (L.getD k.toNat 0).toNat (0, 0)).1))) ∧ ((decide ((E.getD (L.getD k.toNat 0).toNat (0, 0)).2 = ((m2 ++ [(E.getD (L.getD k.toNat 0).toNat (0, 0)).2]).getD i.toNat 0))) = true → True) ∧ ((decide ((E.getD (L.getD k.toNat 0).toNat (0, 0)).2 = ((m2 ++ [(E.getD (L.getD k.toNat 0).toNat (0, 0)).2]).getD i.toNat 0))) = true → True) ∧ (True) ∧ (True) ∧ (((decide ((E.getD (L.getD k.toNat 0).toNat (0, 0)).2 = ((m2 ++ [(E.getD (L.getD k.toNat 0).toNat (0, 0)).2]).getD i.toNat 0))) && (!decide ((E.getD (L.getD k.toNat 0).toNat (0, 0)).1 = but))) = true → True) ∧ (((decide ((E.getD (L.getD k.toNat 0).toNat (0, 0)).2 = ((m2 ++ [(E.getD (L.getD k.toNat 0).toNat (0, 0)).2]).getD i.toNat 0))) && (!decide ((E.getD (L.getD k.toNat 0).toNat (0, 0)).1 = but))) = true → 0 < Try.prog.cellsOf 3) ∧ (((decide ((E.getD (L.getD k.toNat 0).toNat (0, 0)).2 = ((m2 ++ [(E.getD (L.getD k.toNat 0).toNat (0, 0)).2]).getD i.toNat 0))) && (!decide ((E.getD (L.getD k.toNat 0).toNat (0, 0)).1 = but))) = true → CellOk (On w47) b35 (0 + 0) (.int .i64 ((E.getD (L.getD k.toNat 0).toNat (0, 0)).1))) ∧ (((decide ((E.getD (L.getD k.toNat 0).toNat (0, 0)).2 = ((m2 ++ [(E.getD (L.getD k.toNat 0).toNat (0, 0)).2]).getD i.toNat 0))) && (!decide ((E.getD (L.getD k.toNat 0).toNat (0, 0)).1 = but))) = true → Callable Try.prog 24 ∧ CallOk Try.prog (On w47) 24 [v45, .int .i64 ((E.getD (L.getD k.toNat 0).toNat (0, 0)).1)].toArray (.bool (decide ((E.getD (L.getD k.toNat 0).toNat (0, 0)).1 ∈ (m2 ++ [(E.getD (L.getD k.toNat 0).toNat (0, 0)).2]))))) ∧ (((decide ((E.getD (L.getD k.toNat 0).toNat (0, 0)).2 = ((m2 ++ [(E.getD (L.getD k.toNat 0).toNat (0, 0)).2]).getD i.toNat 0))) && (!decide ((E.getD (L.getD k.toNat 0).toNat (0, 0)).1 = but))) = true → True) ∧ (True) ∧ True) hA H ⟨by decide +kernel, by exact box_cell H 0 rfl 1, trivial, trivial, ⟨by kernel_rfl, by exact idx_ok (H.out 1 rfl) (by omega) (by omega)⟩, by exact cell_flat (i := i) (H.out 1 rfl) (by omega) (by omega) 0 0, trivial, trivial, fun _ => by decide +kernel, fun _ => by exact box_cell H 0 rfl 0, fun _ => trivial, fun _ => trivial, trivial, trivial, fun _ => trivial, fun _ => by decide +kernel, fun _ => by exact box_cell H 0 rfl 0, fun _ => ⟨callable_of, callOk_of fun w hw => by exact in_any v45 (m2 ++ [(E.getD (L.getD k.toNat 0).toNat (0, 0)).2]) ((E.getD (L.getD k.toNat 0).toNat (0, 0)).1) w (((H.on hw).out 1 rfl))⟩, fun _ => trivial, trivial, trivial⟩ fun a w49 hA H hG => ?_
        refine hK48 _ _ ?_
        refine go_cond hA (.tmp 82) (((decide ((E.getD (L.getD k.toNat 0).toNat (0, 0)).2 = ((m2 ++ [(E.getD (L.getD k.toNat 0).toNat (0, 0)).2]).getD i.toNat 0))) && (!decide ((E.getD (L.getD k.toNat 0).toNat (0, 0)).1 = but))) && (!(decide ((E.getD (L.getD k.toNat 0).toNat (0, 0)).1 ∈ (m2 ++ [(E.getD (L.getD k.toNat 0).toNat (0, 0)).2]))))) (fun hb50 => ?_) (fun hb50 => ?_)
        · have hhb50 := (⟨(⟨of_decide_eq_true ((aT ((aT hb50).1)).1), of_decide_eq_false (nT ((aT ((aT hb50).1)).2))⟩ : _ ∧ _), of_decide_eq_false (nT ((aT hb50).2))⟩ : _ ∧ _)
          refine region_list ?_
          refine q_list 0 3 [(85, .int .i64 ((E.getD (L.getD k.toNat 0).toNat (0, 0)).1))] [(3, .int .i64 but), (4, .pointer (some ⟨b2, 0, none⟩)), (5, .pointer (some ⟨b4, 0, none⟩)), (10, .int .i64 i), (11, .int .i64 k), (83, v45), (85, .int .i64 ((E.getD (L.getD k.toNat 0).toNat (0, 0)).1))] ((True) ∧ (0 < Try.prog.cellsOf 3) ∧ (CellOk (On w49) b35 (0 + 0) (.int .i64 ((E.getD (L.getD k.toNat 0).toNat (0, 0)).1))) ∧ True) hA H ⟨trivial, by decide +kernel, by exact box_cell H 0 rfl 0, trivial⟩ fun a w51 hA H hG => ?_
          refine list_at 3 ?_; refine q_lit 3 86 27 1 #[(0, .tmp 85)] 3 [(0, .int .i64 ((E.getD (L.getD k.toNat 0).toNat (0, 0)).1))] [.int .i64 ((E.getD (L.getD k.toNat 0).toNat (0, 0)).1)] [(3, .int .i64 but), (4, .pointer (some ⟨b2, 0, none⟩)), (5, .pointer (some ⟨b4, 0, none⟩)), (10, .int .i64 i), (11, .int .i64 k), (83, v45)] hA H fun b52 a w53 H hA hG hge_b52 => ?_
          clear hge_b52
          refine list_at 4 ?_; refine q_push 4 87 (.tmp 83) (.tmp 86) 2 0 b52 1 1 v45 (m2 ++ [(E.getD (L.getD k.toNat 0).toNat (0, 0)).2]) [(E.getD (L.getD k.toNat 0).toNat (0, 0)).1] [.int .i64 ((E.getD (L.getD k.toNat 0).toNat (0, 0)).1)] [(3, .int .i64 but), (4, .pointer (some ⟨b2, 0, none⟩)), (5, .pointer (some ⟨b4, 0, none⟩)), (10, .int .i64 i), (11, .int .i64 k)] hA H Try.E27 rfl rfl (by exact (RowRd.single (α := Int) rfl)) rfl (by simp only [List.length_cons, List.length_nil, List.length_append]; omega) (by decide) fun v54 a w55 H hA hG => ?_
          replace H : Fr _ _ _ [.box b35 99 [.int .i64 ((E.getD (L.getD k.toNat 0).toNat (0, 0)).1), .int .i64 ((E.getD (L.getD k.toNat 0).toNat (0, 0)).2)], .row 3 v54 ((m2 ++ [(E.getD (L.getD k.toNat 0).toNat (0, 0)).2]) ++ [(E.getD (L.getD k.toNat 0).toNat (0, 0)).1]), .box b4 29 [vv, vl], .box b2 24 [.int .i64 n, ve]] := H.drop 0
          refine q_list 5 1 [] [(3, .int .i64 but), (4, .pointer (some ⟨b2, 0, none⟩)), (5, .pointer (some ⟨b4, 0, none⟩)), (9, v54), (10, .int .i64 i), (11, .int .i64 k)] ((True) ∧ True) hA H ⟨trivial, trivial⟩ fun a w56 hA H hG => ?_
          refine list_end ?_
          refine hK32 _ _ ?_
          refine q_reg [] [(3, .int .i64 but), (4, .pointer (some ⟨b2, 0, none⟩)), (5, .pointer (some ⟨b4, 0, none⟩)), (9, v54), (10, .int .i64 i), (11, .int .i64 (k + 1))] ((True) ∧ (InR .i64 (k + 1)) ∧ (True) ∧ True) hA H ⟨trivial, ⟨by omega, by omega⟩, trivial, trivial⟩ fun a w57 hA H hG => ?_
          replace H := H.drop 0
          refine ⟨(k + 1, v54, (m2 ++ [(E.getD (L.getD k.toNat 0).toNat (0, 0)).2]) ++ [(E.getD (L.getD k.toNat 0).toNat (0, 0)).1]), ⟨env_sub _ hA, ⟨_, H⟩, ?_⟩, ?_⟩
          · (try dsimp only); refine ⟨by omega, by omega, ?_⟩; rw [spRound_snoc k0 (by omega), ← hm2, spStep_b, hb41]; dsimp only [cond_true, cond_false]; rw [hb50]; rfl
          · (try dsimp only); omega
        · have hhb50 := (aF hb50).imp (fun h => (aF h).imp (fun h => of_decide_eq_false h) (fun h => of_decide_eq_true (nF h))) (fun h => of_decide_eq_true (nF h))
          refine go_skip ?_
          refine hK32 _ _ ?_
          refine q_reg [] [(3, .int .i64 but), (4, .pointer (some ⟨b2, 0, none⟩)), (5, .pointer (some ⟨b4, 0, none⟩)), (9, v45), (10, .int .i64 i), (11, .int .i64 (k + 1))] ((True) ∧ (InR .i64 (k + 1)) ∧ (True) ∧ True) hA H ⟨trivial, ⟨by omega, by omega⟩, trivial, trivial⟩ fun a w58 hA H hG => ?_
          replace H := H.drop 0
          refine ⟨(k + 1, v45, m2 ++ [(E.getD (L.getD k.toNat 0).toNat (0, 0)).2]), ⟨env_sub _ hA, ⟨_, H⟩, ?_⟩, ?_⟩
          · (try dsimp only); refine ⟨by omega, by omega, ?_⟩; rw [spRound_snoc k0 (by omega), ← hm2, spStep_b, hb41]; dsimp only [cond_true, cond_false]; rw [hb50]; rfl
          · (try dsimp only); omega
      · have hhb41 := (aF hb41).imp (fun h => (aF h).imp (fun h => of_decide_eq_false h) (fun h => of_decide_eq_true (nF h))) (fun h => of_decide_eq_true (nF h))
        refine go_skip ?_
        refine hK38 _ _ ?_
        refine go_seq fun K59 hK59 => ?_
        refine q_draw [(64, .int .i64 ((E.getD (L.getD k.toNat 0).toNat (0, 0)).2)), (68, .int .i64 (m2.getD i.toNat 0)), (72, .int .i64 ((E.getD (L.getD k.toNat 0).toNat (0, 0)).1)), (79, .int .i64 ((E.getD (L.getD k.toNat 0).toNat (0, 0)).1)), (80, .bool (decide ((E.getD (L.getD k.toNat 0).toNat (0, 0)).1 ∈ m2)))] [(3, .int .i64 but), (4, .pointer (some ⟨b2, 0, none⟩)), (5, .pointer (some ⟨b4, 0, none⟩)), (9, vr2), (10, .int .i64 i), (11, .int .i64 k), (12, .pointer (some ⟨b35, 0, none⟩)), (82, .bool (((decide ((E.getD (L.getD k.toNat 0).toNat (0, 0)).2 = (m2.getD i.toNat 0))) && (!decide ((E.getD (L.getD k.toNat 0).toNat (0, 0)).1 = but))) && (!(decide ((E.getD (L.getD k.toNat 0).toNat (0, 0)).1 ∈ m2)))))] ((0 < Try.prog.cellsOf 3) ∧ (CellOk (On w40) b35 (0 + 1) (.int .i64 ((E.getD (L.getD k.toNat 0).toNat (0, 0)).2))) ∧ (True) ∧ (True) ∧ ((Try.prog.info? 3).isSome = true ∧ IdxOk vr2 i) ∧ (CellOk (On w40) (hdB vr2) (hdO vr2 + i.toNat * 1) (.int .i64 (m2.getD i.toNat 0))) ∧ (True) ∧ (True) ∧ ((decide ((E.getD (L.getD k.toNat 0).toNat (0, 0)).2 = (m2.getD i.toNat 0))) = true → 0 < Try.prog.cellsOf 3) ∧ ((decide ((E.getD (L.getD k.toNat 0).toNat (0, 0)).2 = (m2.getD i.toNat 0))) = true → CellOk (On w40) b35 (0 + 0) (.int .i64 ((E.getD (L.getD k.toNat 0).toNat (0, 0)).1))) ∧ ((decide ((E.getD (L.getD k.toNat 0).toNat (0, 0)).2 = (m2.getD i.toNat 0))) = true → True) ∧ ((decide ((E.getD (L.getD k.toNat 0).toNat (0, 0)).2 = (m2.getD i.toNat 0))) = true → True) ∧ (True) ∧ (True) ∧ (((decide ((E.getD (L.getD k.toNat 0).toNat (0, 0)).2 = (m2.getD i.toNat 0))) && (!decide ((E.getD (L.getD k.toNat 0).toNat (0, 0)).1 = but))) = true → True) ∧ (((decide ((E.getD (L.getD k.toNat 0).toNat (0, 0)).2 = (m2.getD i.toNat 0))) && (!decide ((E.getD (L.getD k.toNat 0).toNat (0, 0)).1 = but))) = true → 0 < Try.prog.cellsOf 3) ∧ (((decide ((E.getD (L.getD k.toNat 0).toNat (0, 0)).2 = (m2.getD i.toNat 0))) && (!decide ((E.getD (L.getD k.toNat 0).toNat (0, 0)).1 = but))) = true → CellOk (On w40) b35 (0 + 0) (.int .i64 ((E.getD (L.getD k.toNat 0).toNat (0, 0)).1))) ∧ (((decide ((E.getD (L.getD k.toNat 0).toNat (0, 0)).2 = (m2.getD i.toNat 0))) && (!decide ((E.getD (L.getD k.toNat 0).toNat (0, 0)).1 = but))) = true → Callable Try.prog 24 ∧ CallOk Try.prog (On w40) 24 [vr2, .int .i64 ((E.getD (L.getD k.toNat 0).toNat (0, 0)).1)].toArray (.bool (decide ((E.getD (L.getD k.toNat 0).toNat (0, 0)).1 ∈ m2)))) ∧ (((decide ((E.getD (L.getD k.toNat 0).toNat (0, 0)).2 = (m2.getD i.toNat 0))) && (!decide ((E.getD (L.getD k.toNat 0).toNat (0, 0)).1 = but))) = true → True) ∧ (True) ∧ True) hA H ⟨by decide +kernel, by exact box_cell H 0 rfl 1, trivial, trivial, ⟨by kernel_rfl, by exact idx_ok (H.out 1 rfl) (by omega) (by omega)⟩, by exact cell_flat (i := i) (H.out 1 rfl) (by omega) (by omega) 0 0, trivial, trivial, fun _ => by decide +kernel, fun _ => by exact box_cell H 0 rfl 0, fun _ => trivial, fun _ => trivial, trivial, trivial, fun _ => trivial, fun _ => by decide +kernel, fun _ => by exact box_cell H 0 rfl 0, fun _ => ⟨callable_of, callOk_of fun w hw => by exact in_any vr2 m2 ((E.getD (L.getD k.toNat 0).toNat (0, 0)).1) w (((H.on hw).out 1 rfl))⟩, fun _ => trivial, trivial, trivial⟩ fun a w60 hA H hG => ?_
        refine hK59 _ _ ?_
        refine go_cond hA (.tmp 82) (((decide ((E.getD (L.getD k.toNat 0).toNat (0, 0)).2 = (m2.getD i.toNat 0))) && (!decide ((E.getD (L.getD k.toNat 0).toNat (0, 0)).1 = but))) && (!(decide ((E.getD (L.getD k.toNat 0).toNat (0, 0)).1 ∈ m2)))) (fun hb61 => ?_) (fun hb61 => ?_)
        · have hhb61 := (⟨(⟨of_decide_eq_true ((aT ((aT hb61).1)).1), of_decide_eq_false (nT ((aT ((aT hb61).1)).2))⟩ : _ ∧ _), of_decide_eq_false (nT ((aT hb61).2))⟩ : _ ∧ _)
          refine region_list ?_
          refine q_list 0 3 [(85, .int .i64 ((E.getD (L.getD k.toNat 0).toNat (0, 0)).1))] [(3, .int .i64 but), (4, .pointer (some ⟨b2, 0, none⟩)), (5, .pointer (some ⟨b4, 0, none⟩)), (10, .int .i64 i), (11, .int .i64 k), (83, vr2), (85, .int .i64 ((E.getD (L.getD k.toNat 0).toNat (0, 0)).1))] ((True) ∧ (0 < Try.prog.cellsOf 3) ∧ (CellOk (On w60) b35 (0 + 0) (.int .i64 ((E.getD (L.getD k.toNat 0).toNat (0, 0)).1))) ∧ True) hA H ⟨trivial, by decide +kernel, by exact box_cell H 0 rfl 0, trivial⟩ fun a w62 hA H hG => ?_
          refine list_at 3 ?_; refine q_lit 3 86 27 1 #[(0, .tmp 85)] 3 [(0, .int .i64 ((E.getD (L.getD k.toNat 0).toNat (0, 0)).1))] [.int .i64 ((E.getD (L.getD k.toNat 0).toNat (0, 0)).1)] [(3, .int .i64 but), (4, .pointer (some ⟨b2, 0, none⟩)), (5, .pointer (some ⟨b4, 0, none⟩)), (10, .int .i64 i), (11, .int .i64 k), (83, vr2)] hA H fun b63 a w64 H hA hG hge_b63 => ?_
          clear hge_b63
          refine list_at 4 ?_; refine q_push 4 87 (.tmp 83) (.tmp 86) 2 0 b63 1 1 vr2 m2 [(E.getD (L.getD k.toNat 0).toNat (0, 0)).1] [.int .i64 ((E.getD (L.getD k.toNat 0).toNat (0, 0)).1)] [(3, .int .i64 but), (4, .pointer (some ⟨b2, 0, none⟩)), (5, .pointer (some ⟨b4, 0, none⟩)), (10, .int .i64 i), (11, .int .i64 k)] hA H Try.E27 rfl rfl (by exact (RowRd.single (α := Int) rfl)) rfl (by simp only [List.length_cons, List.length_nil, List.length_append]; omega) (by decide) fun v65 a w66 H hA hG => ?_
          replace H : Fr _ _ _ [.box b35 99 [.int .i64 ((E.getD (L.getD k.toNat 0).toNat (0, 0)).1), .int .i64 ((E.getD (L.getD k.toNat 0).toNat (0, 0)).2)], .row 3 v65 (m2 ++ [(E.getD (L.getD k.toNat 0).toNat (0, 0)).1]), .box b4 29 [vv, vl], .box b2 24 [.int .i64 n, ve]] := H.drop 0
          refine q_list 5 1 [] [(3, .int .i64 but), (4, .pointer (some ⟨b2, 0, none⟩)), (5, .pointer (some ⟨b4, 0, none⟩)), (9, v65), (10, .int .i64 i), (11, .int .i64 k)] ((True) ∧ True) hA H ⟨trivial, trivial⟩ fun a w67 hA H hG => ?_
          refine list_end ?_
          refine hK32 _ _ ?_
          refine q_reg [] [(3, .int .i64 but), (4, .pointer (some ⟨b2, 0, none⟩)), (5, .pointer (some ⟨b4, 0, none⟩)), (9, v65), (10, .int .i64 i), (11, .int .i64 (k + 1))] ((True) ∧ (InR .i64 (k + 1)) ∧ (True) ∧ True) hA H ⟨trivial, ⟨by omega, by omega⟩, trivial, trivial⟩ fun a w68 hA H hG => ?_
          replace H := H.drop 0
          refine ⟨(k + 1, v65, m2 ++ [(E.getD (L.getD k.toNat 0).toNat (0, 0)).1]), ⟨env_sub _ hA, ⟨_, H⟩, ?_⟩, ?_⟩
          · (try dsimp only); refine ⟨by omega, by omega, ?_⟩; rw [spRound_snoc k0 (by omega), ← hm2, spStep_b, hb41]; dsimp only [cond_true, cond_false]; rw [hb61]; rfl
          · (try dsimp only); omega
        · have hhb61 := (aF hb61).imp (fun h => (aF h).imp (fun h => of_decide_eq_false h) (fun h => of_decide_eq_true (nF h))) (fun h => of_decide_eq_true (nF h))
          refine go_skip ?_
          refine hK32 _ _ ?_
          refine q_reg [] [(3, .int .i64 but), (4, .pointer (some ⟨b2, 0, none⟩)), (5, .pointer (some ⟨b4, 0, none⟩)), (9, vr2), (10, .int .i64 i), (11, .int .i64 (k + 1))] ((True) ∧ (InR .i64 (k + 1)) ∧ (True) ∧ True) hA H ⟨trivial, ⟨by omega, by omega⟩, trivial, trivial⟩ fun a w69 hA H hG => ?_
          replace H := H.drop 0
          refine ⟨(k + 1, vr2, m2), ⟨env_sub _ hA, ⟨_, H⟩, ?_⟩, ?_⟩
          · (try dsimp only); refine ⟨by omega, by omega, ?_⟩; rw [spRound_snoc k0 (by omega), ← hm2, spStep_b, hb41]; dsimp only [cond_true, cond_false]; rw [hb61]; rfl
          · (try dsimp only); omega
    · have hhb31 := of_decide_eq_false hb31
      refine go_exit 2 ?_
      refine hK23 _ _ ?_
      refine q_reg [] [(3, .int .i64 but), (4, .pointer (some ⟨b2, 0, none⟩)), (5, .pointer (some ⟨b4, 0, none⟩)), (9, vr2), (10, .int .i64 (i + 1))] ((True) ∧ (InR .i64 (i + 1)) ∧ (True) ∧ True) hA H ⟨trivial, ⟨by omega, by omega⟩, trivial, trivial⟩ fun a w70 hA H hG => ?_
      refine ⟨(i + 1, vr2, m2), ⟨env_sub _ hA, ⟨_, H⟩, ?_⟩, ?_⟩
      · (try dsimp only); exact ⟨by omega, by obtain ⟨_, r9, e9⟩ := hr2; rw [e9, List.length_append]; omega, hsp2, by rw [List.take_of_length_le (by omega)] at hm2; rw [hm2, ← spF_round h0 (by omega) (by omega)]; exact hsf⟩
      · (try dsimp only); omega
  · have hhb22 := of_decide_eq_false hb22
    refine go_exit 0 ?_
    refine hK14 _ _ ?_
    refine go_seq fun K71 hK71 => ?_
    refine q_reg [] [(8, vr)] ((True) ∧ (True) ∧ True) hA H ⟨trivial, trivial, trivial⟩ fun a w72 hA H hG => ?_
    refine hK71 _ _ ?_
    refine go_ret_ ?_
    refine ret_one 8 vr hA ?_
    have ho := (H.give 0 rfl)
    rw [spF_end (by omega)] at hsf; rw [hsf] at ho; exact ⟨_, rfl, ho, H.below⟩

end Go.Proofs.Ytahonnlgkmimlaa

set_option linter.unusedSimpArgs false
set_option linter.unusedVariables false
namespace Go.Proofs.Ytahonnlgkmimlaa
open Go.RowKit

set_option maxRecDepth 100000 in
set_option maxHeartbeats 4000000 in
theorem apart_any (n : Int) (ve : Value) (E : List (Int × Int)) (vv vl : Value) (V L : List Int) (v e f : Int) (w : World) (hn : -9223372036854775808 ≤ n ∧ n ≤ 9223372036854775807) (hE : Rd (· < w.heap.size) w ve E) (hV : Rd (· < w.heap.size) w vv V) (hL : Rd (· < w.heap.size) w vl L) (hpt : partE n E V L = 0) (he : e ∈ L) (hf : f ∈ L) :
  Calls Try.prog 106 [.agg #[.int .i64 n, ve], .agg #[vv, vl], .int .i64 v, .int .i64 e, .int .i64 f].toArray w (Ans (.bool (apartB E L v e f)) w) := by
  obtain ⟨hp1, hp2, hp3, hp4⟩ := partE_0 hpt
  have hr9 := rightE_0 hp1
  have he9 := (rises_iff.1 hp3).2 _ he
  have hf9 := (rises_iff.1 hp3).2 _ hf
  refine enter Try.f106 73 Try.func106 fun a hA => ?_
  replace hA := env_sub [(0, .agg #[.int .i64 n, ve]), (1, .agg #[vv, vl]), (2, .int .i64 v), (3, .int .i64 e), (4, .int .i64 f)] hA
  have H := Fr.start (org w)
  refine go_seq fun K1 hK1 => ?_
  refine region_list ?_
  refine list_at 0 ?_; refine q_box 0 5 24 (.tmp 0) (.agg #[.int .i64 n, ve]) [.int .i64 n, ve] [(1, .agg #[vv, vl]), (2, .int .i64 v), (3, .int .i64 e), (4, .int .i64 f)] hA H fun b2 a w3 H hA hG hge_b2 => ?_
  clear hge_b2
  refine list_at 1 ?_; refine q_box 1 6 29 (.tmp 1) (.agg #[vv, vl]) [vv, vl] [(2, .int .i64 v), (3, .int .i64 e), (4, .int .i64 f), (5, .pointer (some ⟨b2, 0, none⟩))] hA H fun b4 a w5 H hA hG hge_b4 => ?_
  clear hge_b4
  refine q_list 2 1 [] [(2, .int .i64 v), (3, .int .i64 e), (4, .int .i64 f), (5, .pointer (some ⟨b2, 0, none⟩)), (6, .pointer (some ⟨b4, 0, none⟩))] ((True) ∧ True) hA H ⟨trivial, trivial⟩ fun a w6 hA H hG => ?_
  refine list_end ?_
  refine hK1 _ _ ?_
  refine go_seq fun K7 hK7 => ?_
  have H0 := H
  have hM0 := H0.keeps none (.inl rfl)
  refine region_mix (But w6 none) [0, 1, 2, 3, 4, 5, 6, 7, 8, 9, 10, 11, 12] 14 ?_
  replace H := H.drawn; have hD := But.drew w6 none
  generalize ({ w6 with drawn := w6.drawn + 1 } : World) = w8 at H hD ⊢
  refine m_take (n := 4) [0, 1, 2, 3, 4, 5, 6, 7, 8, 9] #[true, true, true, true, true, true, true, true, true, true, false, false, false, false] [(16, ve), (19, .agg #[.int .i64 ((E.getD e.toNat (0, 0)).1), .int .i64 ((E.getD e.toNat (0, 0)).2)]), (21, ve), (24, .agg #[.int .i64 ((E.getD f.toNat (0, 0)).1), .int .i64 ((E.getD f.toNat (0, 0)).2)])] [(2, .int .i64 v), (3, .int .i64 e), (4, .int .i64 f), (5, .pointer (some ⟨b2, 0, none⟩)), (6, .pointer (some ⟨b4, 0, none⟩)), (19, .agg #[.int .i64 ((E.getD e.toNat (0, 0)).1), .int .i64 ((E.getD e.toNat (0, 0)).2)]), (24, .agg #[.int .i64 ((E.getD f.toNat (0, 0)).1), .int .i64 ((E.getD f.toNat (0, 0)).2)])] ((0 < Try.prog.cellsOf 22) ∧ (CellOk (But w6 none) b2 (0 + 1) (ve)) ∧ (True) ∧ ((Try.prog.info? 99).isSome = true ∧ IdxOk ve e) ∧ ((Try.prog.info? 99).isSome = true ∧ RowOk (But w6 none) (hdB ve) (hdO ve + e.toNat * 2) (Try.prog.cellsOf 99) #[.int .i64 ((E.getD e.toNat (0, 0)).1), .int .i64 ((E.getD e.toNat (0, 0)).2)]) ∧ (0 < Try.prog.cellsOf 22) ∧ (CellOk (But w6 none) b2 (0 + 1) (ve)) ∧ (True) ∧ ((Try.prog.info? 99).isSome = true ∧ IdxOk ve f) ∧ ((Try.prog.info? 99).isSome = true ∧ RowOk (But w6 none) (hdB ve) (hdO ve + f.toNat * 2) (Try.prog.cellsOf 99) #[.int .i64 ((E.getD f.toNat (0, 0)).1), .int .i64 ((E.getD f.toNat (0, 0)).2)]) ∧ True) hA hD ⟨by decide +kernel, by exact box_cellC (box_atC H0 none 1 rfl (fun e => by cases e)) 1, trivial, ⟨by kernel_rfl, by exact idx_ok (H0.argT hE) (by omega) (by omega)⟩, ⟨by kernel_rfl, by exact row_flatC hM0 (i := e) (H0.argT hE) (by omega) (by omega) (0, 0)⟩, by decide +kernel, by exact box_cellC (box_atC H0 none 1 rfl (fun e => by cases e)) 1, trivial, ⟨by kernel_rfl, by exact idx_ok (H0.argT hE) (by omega) (by omega)⟩, ⟨by kernel_rfl, by exact row_flatC hM0 (i := f) (H0.argT hE) (by omega) (by omega) (0, 0)⟩, trivial⟩ fun a hA => ?_
  refine mix_gen fun M hM => ?_
  have hM18 : ∀ (a : Act) (w23 : World) (S : Stab) (b9 : Nat) (hge_b9 : w6.heap.size ≤ b9) (b13 : Nat) (hge_b13 : w6.heap.size ≤ b13), EnvOk 73 a (keepEnv [(2, .int .i64 v), (3, .int .i64 e), (4, .int .i64 f), (5, .pointer (some ⟨b2, 0, none⟩)), (6, .pointer (some ⟨b4, 0, none⟩)), (11, .pointer (some ⟨b9, 0, none⟩)), (12, .pointer (some ⟨b13, 0, none⟩)), (24, .agg #[.int .i64 ((E.getD f.toNat (0, 0)).1), .int .i64 ((E.getD f.toNat (0, 0)).2)])]) → Fr (org w) w23 S [.box b13 99 [.int .i64 0, .int .i64 0], .box b9 99 [.int .i64 ((E.getD e.toNat (0, 0)).1), .int .i64 ((E.getD e.toNat (0, 0)).2)], .box b4 29 [vv, vl], .box b2 24 [.int .i64 n, ve]] → But w6 none w23 → M 1 #[true, true, true, true, true, true, true, true, true, true, true, true, true, false] a w23 := by
    intro a w23 S b9 hge_b9 b13 hge_b13 hA H hD
    refine (hM _ _ _ _).2 ?_
    refine m_one 13 ?_; refine q_store 13 99 (.tmp 12) (.tmp 24) 0 b13 (0) 99 [.int .i64 0, .int .i64 0] [.int .i64 ((E.getD f.toNat (0, 0)).1), .int .i64 ((E.getD f.toNat (0, 0)).2)] [.int .i64 ((E.getD f.toNat (0, 0)).1), .int .i64 ((E.getD f.toNat (0, 0)).2)] (.agg #[.int .i64 ((E.getD f.toNat (0, 0)).1), .int .i64 ((E.getD f.toNat (0, 0)).2)]) [(2, .int .i64 v), (3, .int .i64 e), (4, .int .i64 f), (5, .pointer (some ⟨b2, 0, none⟩)), (6, .pointer (some ⟨b4, 0, none⟩)), (11, .pointer (some ⟨b9, 0, none⟩)), (12, .pointer (some ⟨b13, 0, none⟩))] hA H rfl rfl (Nat.le_of_ble_eq_true (by kernel_rfl)) rfl (fun v hv => by simp only [List.mem_cons, List.not_mem_nil, or_false] at hv; rcases hv with rfl | rfl; exact rfl; exact rfl) fun a w24 H hA hG => ?_
    replace H : Fr _ _ _ [.box b13 99 [.int .i64 ((E.getD f.toNat (0, 0)).1), .int .i64 ((E.getD f.toNat (0, 0)).2)], .box b9 99 [.int .i64 ((E.getD e.toNat (0, 0)).1), .int .i64 ((E.getD e.toNat (0, 0)).2)], .box b4 29 [vv, vl], .box b2 24 [.int .i64 n, ve]] := H
    refine ⟨fun h => absurd h (by decide), ?_⟩
    refine m_end ?_
    refine hK7 _ _ ?_
    refine go_seq fun K25 hK25 => ?_
    refine go_seq fun K26 hK26 => ?_
    refine q_reg [] [(2, .int .i64 v), (5, .pointer (some ⟨b2, 0, none⟩)), (6, .pointer (some ⟨b4, 0, none⟩)), (11, .pointer (some ⟨b9, 0, none⟩)), (12, .pointer (some ⟨b13, 0, none⟩)), (27, .bool (decide (e = f)))] ((True) ∧ (True) ∧ (True) ∧ True) hA H ⟨trivial, trivial, trivial, trivial⟩ fun a w27 hA H hG => ?_
    refine hK26 _ _ ?_
    refine go_cond hA (.tmp 27) (decide (e = f)) (fun hb28 => ?_) (fun hb28 => ?_)
    · have hhb28 := of_decide_eq_true hb28
      refine go_seq fun K29 hK29 => ?_
      refine q_reg [] [(10, .bool false)] ((True) ∧ True) hA H ⟨trivial, trivial⟩ fun a w30 hA H hG => ?_
      refine hK29 _ _ ?_
      refine go_ret_ ?_
      refine ret_one 10 (.bool false) hA ?_
      exact ans_b' (by unfold apartB; rw [if_pos hhb28]) H.below
    · have hhb28 := of_decide_eq_false hb28
      refine go_skip ?_
      refine hK25 _ _ ?_
      refine go_seq fun K31 hK31 => ?_
      refine go_seq fun K32 hK32 => ?_
      refine q_reg [(29, .int .i64 ((E.getD e.toNat (0, 0)).1)), (34, .int .i64 ((E.getD e.toNat (0, 0)).2)), (40, .int .i64 ((E.getD f.toNat (0, 0)).1)), (45, .int .i64 ((E.getD f.toNat (0, 0)).2))] [(2, .int .i64 v), (5, .pointer (some ⟨b2, 0, none⟩)), (6, .pointer (some ⟨b4, 0, none⟩)), (11, .pointer (some ⟨b9, 0, none⟩)), (12, .pointer (some ⟨b13, 0, none⟩)), (49, .bool (((decide ((E.getD e.toNat (0, 0)).1 = v)) && (decide ((E.getD e.toNat (0, 0)).2 = v))) || ((decide ((E.getD f.toNat (0, 0)).1 = v)) && (decide ((E.getD f.toNat (0, 0)).2 = v)))))] ((0 < Try.prog.cellsOf 3) ∧ (CellOk (On w27) b9 (0 + 0) (.int .i64 ((E.getD e.toNat (0, 0)).1))) ∧ (True) ∧ (True) ∧ (True) ∧ ((decide ((E.getD e.toNat (0, 0)).1 = v)) = true → 0 < Try.prog.cellsOf 3) ∧ ((decide ((E.getD e.toNat (0, 0)).1 = v)) = true → CellOk (On w27) b9 (0 + 1) (.int .i64 ((E.getD e.toNat (0, 0)).2))) ∧ ((decide ((E.getD e.toNat (0, 0)).1 = v)) = true → True) ∧ ((decide ((E.getD e.toNat (0, 0)).1 = v)) = true → True) ∧ (True) ∧ (True) ∧ (((decide ((E.getD e.toNat (0, 0)).1 = v)) && (decide ((E.getD e.toNat (0, 0)).2 = v))) = false → 0 < Try.prog.cellsOf 3) ∧ (((decide ((E.getD e.toNat (0, 0)).1 = v)) && (decide ((E.getD e.toNat (0, 0)).2 = v))) = false → CellOk (On w27) b13 (0 + 0) (.int .i64 ((E.getD f.toNat (0, 0)).1))) ∧ (((decide ((E.getD e.toNat (0, 0)).1 = v)) && (decide ((E.getD e.toNat (0, 0)).2 = v))) = false → True) ∧ (((decide ((E.getD e.toNat (0, 0)).1 = v)) && (decide ((E.getD e.toNat (0, 0)).2 = v))) = false → True) ∧ (((decide ((E.getD e.toNat (0, 0)).1 = v)) && (decide ((E.getD e.toNat (0, 0)).2 = v))) = false → True) ∧ (((decide ((E.getD e.toNat (0, 0)).1 = v)) && (decide ((E.getD e.toNat (0, 0)).2 = v))) = false → (decide ((E.getD f.toNat (0, 0)).1 = v)) = true → 0 < Try.prog.cellsOf 3) ∧ (((decide ((E.getD e.toNat (0, 0)).1 = v)) && (decide ((E.getD e.toNat (0, 0)).2 = v))) = false → (decide ((E.getD f.toNat (0, 0)).1 = v)) = true → CellOk (On w27) b13 (0 + 1) (.int .i64 ((E.getD f.toNat (0, 0)).2))) ∧ (((decide ((E.getD e.toNat (0, 0)).1 = v)) && (decide ((E.getD e.toNat (0, 0)).2 = v))) = false → (decide ((E.getD f.toNat (0, 0)).1 = v)) = true → True) ∧ (((decide ((E.getD e.toNat (0, 0)).1 = v)) && (decide ((E.getD e.toNat (0, 0)).2 = v))) = false → (decide ((E.getD f.toNat (0, 0)).1 = v)) = true → True) ∧ (((decide ((E.getD e.toNat (0, 0)).1 = v)) && (decide ((E.getD e.toNat (0, 0)).2 = v))) = false → True) ∧ (True) ∧ True) hA H ⟨by decide +kernel, by exact box_cell H 1 rfl 0, trivial, trivial, trivial, fun _ => by decide +kernel, fun _ => by exact box_cell H 1 rfl 1, fun _ => trivial, fun _ => trivial, trivial, trivial, fun _ => by decide +kernel, fun _ => by exact box_cell H 0 rfl 0, fun _ => trivial, fun _ => trivial, fun _ => trivial, fun _ _ => by decide +kernel, fun _ _ => by exact box_cell H 0 rfl 1, fun _ _ => trivial, fun _ _ => trivial, fun _ => trivial, trivial, trivial⟩ fun a w33 hA H hG => ?_
      refine hK32 _ _ ?_
      refine go_cond hA (.tmp 49) (((decide ((E.getD e.toNat (0, 0)).1 = v)) && (decide ((E.getD e.toNat (0, 0)).2 = v))) || ((decide ((E.getD f.toNat (0, 0)).1 = v)) && (decide ((E.getD f.toNat (0, 0)).2 = v)))) (fun hb34 => ?_) (fun hb34 => ?_)
      · have hhb34 := (oT hb34).imp (fun h => (⟨of_decide_eq_true ((aT h).1), of_decide_eq_true ((aT h).2)⟩ : _ ∧ _)) (fun h => (⟨of_decide_eq_true ((aT h).1), of_decide_eq_true ((aT h).2)⟩ : _ ∧ _))
        refine go_seq fun K35 hK35 => ?_
        refine q_reg [] [(10, .bool true)] ((True) ∧ True) hA H ⟨trivial, trivial⟩ fun a w36 hA H hG => ?_
        refine hK35 _ _ ?_
        refine go_ret_ ?_
        refine ret_one 10 (.bool true) hA ?_
        exact ans_b' (by unfold apartB eA eB; rw [if_neg hhb28, if_pos (by have := hhb34; omega)]) H.below
      · have hhb34 := (⟨(aF ((oF hb34).1)).imp (fun h => of_decide_eq_false h) (fun h => of_decide_eq_false h), (aF ((oF hb34).2)).imp (fun h => of_decide_eq_false h) (fun h => of_decide_eq_false h)⟩ : _ ∧ _)
        refine go_skip ?_
        refine hK31 _ _ ?_
        refine go_seq fun K37 hK37 => ?_
        refine q_draw [(51, .int .i64 ((E.getD e.toNat (0, 0)).1)), (53, .int .i64 ((E.getD f.toNat (0, 0)).1))] [(2, .int .i64 v), (5, .pointer (some ⟨b2, 0, none⟩)), (6, .pointer (some ⟨b4, 0, none⟩)), (11, .pointer (some ⟨b9, 0, none⟩)), (12, .pointer (some ⟨b13, 0, none⟩)), (13, .int .i64 ((E.getD e.toNat (0, 0)).1)), (14, .int .i64 ((E.getD f.toNat (0, 0)).1))] ((0 < Try.prog.cellsOf 3) ∧ (CellOk (On w33) b9 (0 + 0) (.int .i64 ((E.getD e.toNat (0, 0)).1))) ∧ (0 < Try.prog.cellsOf 3) ∧ (CellOk (On w33) b13 (0 + 0) (.int .i64 ((E.getD f.toNat (0, 0)).1))) ∧ (True) ∧ (True) ∧ True) hA H ⟨by decide +kernel, by exact box_cell H 1 rfl 0, by decide +kernel, by exact box_cell H 0 rfl 0, trivial, trivial, trivial⟩ fun a w38 hA H hG => ?_
        refine hK37 _ _ ?_
        refine go_seq fun K39 hK39 => ?_
        refine go_seq fun K40 hK40 => ?_
        refine q_reg [] [(2, .int .i64 v), (5, .pointer (some ⟨b2, 0, none⟩)), (6, .pointer (some ⟨b4, 0, none⟩)), (11, .pointer (some ⟨b9, 0, none⟩)), (12, .pointer (some ⟨b13, 0, none⟩)), (13, .int .i64 ((E.getD e.toNat (0, 0)).1)), (14, .int .i64 ((E.getD f.toNat (0, 0)).1)), (56, .bool (decide ((E.getD e.toNat (0, 0)).1 = v)))] ((True) ∧ (True) ∧ (True) ∧ True) hA H ⟨trivial, trivial, trivial, trivial⟩ fun a w41 hA H hG => ?_
        refine hK40 _ _ ?_
        refine go_cond hA (.tmp 56) (decide ((E.getD e.toNat (0, 0)).1 = v)) (fun hb42 => ?_) (fun hb42 => ?_)
        · have hhb42 := of_decide_eq_true hb42
          refine q_reg [(58, .int .i64 ((E.getD e.toNat (0, 0)).2))] [(2, .int .i64 v), (5, .pointer (some ⟨b2, 0, none⟩)), (6, .pointer (some ⟨b4, 0, none⟩)), (12, .pointer (some ⟨b13, 0, none⟩)), (13, .int .i64 ((E.getD e.toNat (0, 0)).2)), (14, .int .i64 ((E.getD f.toNat (0, 0)).1))] ((0 < Try.prog.cellsOf 3) ∧ (CellOk (On w41) b9 (0 + 1) (.int .i64 ((E.getD e.toNat (0, 0)).2))) ∧ (True) ∧ True) hA H ⟨by decide +kernel, by exact box_cell H 1 rfl 1, trivial, trivial⟩ fun a w43 hA H hG => ?_
          refine hK39 _ _ ?_
          refine go_seq fun K44 hK44 => ?_
          refine go_seq fun K45 hK45 => ?_
          refine q_reg [] [(2, .int .i64 v), (5, .pointer (some ⟨b2, 0, none⟩)), (6, .pointer (some ⟨b4, 0, none⟩)), (12, .pointer (some ⟨b13, 0, none⟩)), (13, .int .i64 ((E.getD e.toNat (0, 0)).2)), (14, .int .i64 ((E.getD f.toNat (0, 0)).1)), (61, .bool (decide ((E.getD f.toNat (0, 0)).1 = v)))] ((True) ∧ (True) ∧ (True) ∧ True) hA H ⟨trivial, trivial, trivial, trivial⟩ fun a w46 hA H hG => ?_
          refine hK45 _ _ ?_
          refine go_cond hA (.tmp 61) (decide ((E.getD f.toNat (0, 0)).1 = v)) (fun hb47 => ?_) (fun hb47 => ?_)
          · have hhb47 := of_decide_eq_true hb47
            refine q_reg [(63, .int .i64 ((E.getD f.toNat (0, 0)).2))] [(2, .int .i64 v), (5, .pointer (some ⟨b2, 0, none⟩)), (6, .pointer (some ⟨b4, 0, none⟩)), (13, .int .i64 ((E.getD e.toNat (0, 0)).2)), (14, .int .i64 ((E.getD f.toNat (0, 0)).2))] ((0 < Try.prog.cellsOf 3) ∧ (CellOk (On w46) b13 (0 + 1) (.int .i64 ((E.getD f.toNat (0, 0)).2))) ∧ (True) ∧ True) hA H ⟨by decide +kernel, by exact box_cell H 0 rfl 1, trivial, trivial⟩ fun a w48 hA H hG => ?_
            refine hK44 _ _ ?_
            refine go_seq fun K49 hK49 => ?_
            refine region_list ?_
            refine q_list 0 3 [(64, .agg #[.int .i64 n, ve]), (65, .agg #[vv, vl])] [(2, .int .i64 v), (14, .int .i64 ((E.getD f.toNat (0, 0)).2)), (64, .agg #[.int .i64 n, ve]), (65, .agg #[vv, vl]), (66, .int .i64 ((E.getD e.toNat (0, 0)).2))] (((Try.prog.info? 24).isSome = true ∧ RowOk (On w48) b2 (0) (Try.prog.cellsOf 24) #[.int .i64 n, ve]) ∧ ((Try.prog.info? 29).isSome = true ∧ RowOk (On w48) b4 (0) (Try.prog.cellsOf 29) #[vv, vl]) ∧ (True) ∧ True) hA H ⟨⟨by kernel_rfl, by exact box_row H 3 rfl 0 2⟩, ⟨by kernel_rfl, by exact box_row H 2 rfl 0 2⟩, trivial, trivial⟩ fun a w50 hA H hG => ?_
            refine list_at 3 ?_; refine q_lit 3 67 27 1 #[(0, .tmp 66)] 3 [(0, .int .i64 ((E.getD e.toNat (0, 0)).2))] [.int .i64 ((E.getD e.toNat (0, 0)).2)] [(2, .int .i64 v), (14, .int .i64 ((E.getD f.toNat (0, 0)).2)), (64, .agg #[.int .i64 n, ve]), (65, .agg #[vv, vl])] hA H fun b51 a w52 H hA hG hge_b51 => ?_
            clear hge_b51
            refine q_list 4 1 [] [(14, .int .i64 ((E.getD f.toNat (0, 0)).2)), (64, .agg #[.int .i64 n, ve]), (65, .agg #[vv, vl]), (67, (.slice (some ⟨b51, 0, none⟩) 1 1)), (68, .int .i64 v)] ((True) ∧ True) hA H ⟨trivial, trivial⟩ fun a w53 hA H hG => ?_
            refine list_at 5 ?_; refine q_call 5 69 131 #[.tmp 64, .tmp 65, .tmp 67, .tmp 68] #[24, 29, 27, 3] [.agg #[.int .i64 n, ve], .agg #[vv, vl], (.slice (some ⟨b51, 0, none⟩) 1 1), .int .i64 v] (fun S v_ w' => Rd S w' v_ (spread E L ((E.getD e.toNat (0, 0)).2) v)) [(14, .int .i64 ((E.getD f.toNat (0, 0)).2))] hA H (by exact spread_any n ve E vv vl V L (.slice (some ⟨b51, 0, none⟩) 1 1) ((E.getD e.toNat (0, 0)).2) v H.at (by omega) ((H.arg hE)) ((H.arg hV)) ((H.arg hL)) ((H.lit 0 rfl (by exact (RowRd.single (α := Int) (a := (E.getD e.toNat (0, 0)).2) (by exact rfl))) rfl (by decide))) hpt (by omega) (by first | exact mem_endsL.2 ⟨_, he, .inl rfl⟩ | exact mem_endsL.2 ⟨_, he, .inr rfl⟩)) fun v54 a w55 S hR56 H hA hG => ?_
            replace H := H.ro hR56
            refine q_list 6 4 [(71, .bool (decide ((E.getD f.toNat (0, 0)).2 ∈ (spread E L ((E.getD e.toNat (0, 0)).2) v))))] [(10, .bool (!(decide ((E.getD f.toNat (0, 0)).2 ∈ (spread E L ((E.getD e.toNat (0, 0)).2) v)))))] ((True) ∧ (Callable Try.prog 24 ∧ CallOk Try.prog (On w55) 24 [v54, .int .i64 ((E.getD f.toNat (0, 0)).2)].toArray (.bool (decide ((E.getD f.toNat (0, 0)).2 ∈ (spread E L ((E.getD e.toNat (0, 0)).2) v))))) ∧ (True) ∧ (True) ∧ True) hA H ⟨trivial, ⟨callable_of, callOk_of fun w hw => by exact in_any v54 (spread E L ((E.getD e.toNat (0, 0)).2) v) ((E.getD f.toNat (0, 0)).2) w (((H.on hw).get 0 rfl))⟩, trivial, trivial, trivial⟩ fun a w58 hA H hG => ?_
            refine list_end ?_
            refine hK49 _ _ ?_
            refine go_ret_ ?_
            refine ret_one 10 (.bool (!(decide ((E.getD f.toNat (0, 0)).2 ∈ (spread E L ((E.getD e.toNat (0, 0)).2) v))))) hA ?_
            exact ans_b' (by unfold apartB otherE eA eB; rw [if_neg hhb28, if_neg (by have := hhb34; omega)]; first | rw [if_pos hhb47, if_pos hhb42] | rw [if_pos hhb47, if_neg hhb42] | rw [if_neg hhb47, if_pos hhb42] | rw [if_neg hhb47, if_neg hhb42]) H.below
          · have hhb47 := of_decide_eq_false hb47
            refine go_skip ?_
            refine hK44 _ _ ?_
            refine go_seq fun K59 hK59 => ?_
            refine region_list ?_
            refine q_list 0 3 [(64, .agg #[.int .i64 n, ve]), (65, .agg #[vv, vl])] [(2, .int .i64 v), (14, .int .i64 ((E.getD f.toNat (0, 0)).1)), (64, .agg #[.int .i64 n, ve]), (65, .agg #[vv, vl]), (66, .int .i64 ((E.getD e.toNat (0, 0)).2))] (((Try.prog.info? 24).isSome = true ∧ RowOk (On w46) b2 (0) (Try.prog.cellsOf 24) #[.int .i64 n, ve]) ∧ ((Try.prog.info? 29).isSome = true ∧ RowOk (On w46) b4 (0) (Try.prog.cellsOf 29) #[vv, vl]) ∧ (True) ∧ True) hA H ⟨⟨by kernel_rfl, by exact box_row H 3 rfl 0 2⟩, ⟨by kernel_rfl, by exact box_row H 2 rfl 0 2⟩, trivial, trivial⟩ fun a w60 hA H hG => ?_
            refine list_at 3 ?_; refine q_lit 3 67 27 1 #[(0, .tmp 66)] 3 [(0, .int .i64 ((E.getD e.toNat (0, 0)).2))] [.int .i64 ((E.getD e.toNat (0, 0)).2)] [(2, .int .i64 v), (14, .int .i64 ((E.getD f.toNat (0, 0)).1)), (64, .agg #[.int .i64 n, ve]), (65, .agg #[vv, vl])] hA H fun b61 a w62 H hA hG hge_b61 => ?_
            clear hge_b61
            refine q_list 4 1 [] [(14, .int .i64 ((E.getD f.toNat (0, 0)).1)), (64, .agg #[.int .i64 n, ve]), (65, .agg #[vv, vl]), (67, (.slice (some ⟨b61, 0, none⟩) 1 1)), (68, .int .i64 v)] ((True) ∧ True) hA H ⟨trivial, trivial⟩ fun a w63 hA H hG => ?_
            refine list_at 5 ?_; refine q_call 5 69 131 #[.tmp 64, .tmp 65, .tmp 67, .tmp 68] #[24, 29, 27, 3] [.agg #[.int .i64 n, ve], .agg #[vv, vl], (.slice (some ⟨b61, 0, none⟩) 1 1), .int .i64 v] (fun S v_ w' => Rd S w' v_ (spread E L ((E.getD e.toNat (0, 0)).2) v)) [(14, .int .i64 ((E.getD f.toNat (0, 0)).1))] hA H (by exact spread_any n ve E vv vl V L (.slice (some ⟨b61, 0, none⟩) 1 1) ((E.getD e.toNat (0, 0)).2) v H.at (by omega) ((H.arg hE)) ((H.arg hV)) ((H.arg hL)) ((H.lit 0 rfl (by exact (RowRd.single (α := Int) (a := (E.getD e.toNat (0, 0)).2) (by exact rfl))) rfl (by decide))) hpt (by omega) (by first | exact mem_endsL.2 ⟨_, he, .inl rfl⟩ | exact mem_endsL.2 ⟨_, he, .inr rfl⟩)) fun v64 a w65 S hR66 H hA hG => ?_
            replace H := H.ro hR66
            refine q_list 6 4 [(71, .bool (decide ((E.getD f.toNat (0, 0)).1 ∈ (spread E L ((E.getD e.toNat (0, 0)).2) v))))] [(10, .bool (!(decide ((E.getD f.toNat (0, 0)).1 ∈ (spread E L ((E.getD e.toNat (0, 0)).2) v)))))] ((True) ∧ (Callable Try.prog 24 ∧ CallOk Try.prog (On w65) 24 [v64, .int .i64 ((E.getD f.toNat (0, 0)).1)].toArray (.bool (decide ((E.getD f.toNat (0, 0)).1 ∈ (spread E L ((E.getD e.toNat (0, 0)).2) v))))) ∧ (True) ∧ (True) ∧ True) hA H ⟨trivial, ⟨callable_of, callOk_of fun w hw => by exact in_any v64 (spread E L ((E.getD e.toNat (0, 0)).2) v) ((E.getD f.toNat (0, 0)).1) w (((H.on hw).get 0 rfl))⟩, trivial, trivial, trivial⟩ fun a w68 hA H hG => ?_
            refine list_end ?_
            refine hK59 _ _ ?_
            refine go_ret_ ?_
            refine ret_one 10 (.bool (!(decide ((E.getD f.toNat (0, 0)).1 ∈ (spread E L ((E.getD e.toNat (0, 0)).2) v))))) hA ?_
            exact ans_b' (by unfold apartB otherE eA eB; rw [if_neg hhb28, if_neg (by have := hhb34; omega)]; first | rw [if_pos hhb47, if_pos hhb42] | rw [if_pos hhb47, if_neg hhb42] | rw [if_neg hhb47, if_pos hhb42] | rw [if_neg hhb47, if_neg hhb42]) H.below
        · have hhb42 := of_decide_eq_false hb42
          refine go_skip ?_
          refine hK39 _ _ ?_
          refine go_seq fun K69 hK69 => ?_
          refine go_seq fun K70 hK70 => ?_
          refine q_reg [] [(2, .int .i64 v), (5, .pointer (some ⟨b2, 0, none⟩)), (6, .pointer (some ⟨b4, 0, none⟩)), (12, .pointer (some ⟨b13, 0, none⟩)), (13, .int .i64 ((E.getD e.toNat (0, 0)).1)), (14, .int .i64 ((E.getD f.toNat (0, 0)).1)), (61, .bool (decide ((E.getD f.toNat (0, 0)).1 = v)))] ((True) ∧ (True) ∧ (True) ∧ True) hA H ⟨trivial, trivial, trivial, trivial⟩ fun a w71 hA H hG => ?_
          refine hK70 _ _ ?_
          refine go_cond hA (.tmp 61) (decide ((E.getD f.toNat (0, 0)).1 = v)) (fun hb72 => ?_) (fun hb72 => ?_)
          · have hhb72 := of_decide_eq_true hb72
            refine q_reg [(63, .int .i64 ((E.getD f.toNat (0, 0)).2))] [(2, .int .i64 v), (5, .pointer (some ⟨b2, 0, none⟩)), (6, .pointer (some ⟨b4, 0, none⟩)), (13, .int .i64 ((E.getD e.toNat (0, 0)).1)), (14, .int .i64 ((E.getD f.toNat (0, 0)).2))] ((0 < Try.prog.cellsOf 3) ∧ (CellOk (On w71) b13 (0 + 1) (.int .i64 ((E.getD f.toNat (0, 0)).2))) ∧ (True) ∧ True) hA H ⟨by decide +kernel, by exact box_cell H 0 rfl 1, trivial, trivial⟩ fun a w73 hA H hG => ?_
            refine hK69 _ _ ?_
            refine go_seq fun K74 hK74 => ?_
            refine region_list ?_
            refine q_list 0 3 [(64, .agg #[.int .i64 n, ve]), (65, .agg #[vv, vl])] [(2, .int .i64 v), (14, .int .i64 ((E.getD f.toNat (0, 0)).2)), (64, .agg #[.int .i64 n, ve]), (65, .agg #[vv, vl]), (66, .int .i64 ((E.getD e.toNat (0, 0)).1))] (((Try.prog.info? 24).isSome = true ∧ RowOk (On w73) b2 (0) (Try.prog.cellsOf 24) #[.int .i64 n, ve]) ∧ ((Try.prog.info? 29).isSome = true ∧ RowOk (On w73) b4 (0) (Try.prog.cellsOf 29) #[vv, vl]) ∧ (True) ∧ True) hA H ⟨⟨by kernel_rfl, by exact box_row H 3 rfl 0 2⟩, ⟨by kernel_rfl, by exact box_row H 2 rfl 0 2⟩, trivial, trivial⟩ fun a w75 hA H hG => ?_
            refine list_at 3 ?_; refine q_lit 3 67 27 1 #[(0, .tmp 66)] 3 [(0, .int .i64 ((E.getD e.toNat (0, 0)).1))] [.int .i64 ((E.getD e.toNat (0, 0)).1)] [(2, .int .i64 v), (14, .int .i64 ((E.getD f.toNat (0, 0)).2)), (64, .agg #[.int .i64 n, ve]), (65, .agg #[vv, vl])] hA H fun b76 a w77 H hA hG hge_b76 => ?_
            clear hge_b76
            refine q_list 4 1 [] [(14, .int .i64 ((E.getD f.toNat (0, 0)).2)), (64, .agg #[.int .i64 n, ve]), (65, .agg #[vv, vl]), (67, (.slice (some ⟨b76, 0, none⟩) 1 1)), (68, .int .i64 v)] ((True) ∧ True) hA H ⟨trivial, trivial⟩ fun a w78 hA H hG => ?_
            refine list_at 5 ?_; refine q_call 5 69 131 #[.tmp 64, .tmp 65, .tmp 67, .tmp 68] #[24, 29, 27, 3] [.agg #[.int .i64 n, ve], .agg #[vv, vl], (.slice (some ⟨b76, 0, none⟩) 1 1), .int .i64 v] (fun S v_ w' => Rd S w' v_ (spread E L ((E.getD e.toNat (0, 0)).1) v)) [(14, .int .i64 ((E.getD f.toNat (0, 0)).2))] hA H (by exact spread_any n ve E vv vl V L (.slice (some ⟨b76, 0, none⟩) 1 1) ((E.getD e.toNat (0, 0)).1) v H.at (by omega) ((H.arg hE)) ((H.arg hV)) ((H.arg hL)) ((H.lit 0 rfl (by exact (RowRd.single (α := Int) (a := (E.getD e.toNat (0, 0)).1) (by exact rfl))) rfl (by decide))) hpt (by omega) (by first | exact mem_endsL.2 ⟨_, he, .inl rfl⟩ | exact mem_endsL.2 ⟨_, he, .inr rfl⟩)) fun v79 a w80 S hR81 H hA hG => ?_
            replace H := H.ro hR81
            refine q_list 6 4 [(71, .bool (decide ((E.getD f.toNat (0, 0)).2 ∈ (spread E L ((E.getD e.toNat (0, 0)).1) v))))] [(10, .bool (!(decide ((E.getD f.toNat (0, 0)).2 ∈ (spread E L ((E.getD e.toNat (0, 0)).1) v)))))] ((True) ∧ (Callable Try.prog 24 ∧ CallOk Try.prog (On w80) 24 [v79, .int .i64 ((E.getD f.toNat (0, 0)).2)].toArray (.bool (decide ((E.getD f.toNat (0, 0)).2 ∈ (spread E L ((E.getD e.toNat (0, 0)).1) v))))) ∧ (True) ∧ (True) ∧ True) hA H ⟨trivial, ⟨callable_of, callOk_of fun w hw => by exact in_any v79 (spread E L ((E.getD e.toNat (0, 0)).1) v) ((E.getD f.toNat (0, 0)).2) w (((H.on hw).get 0 rfl))⟩, trivial, trivial, trivial⟩ fun a w83 hA H hG => ?_
            refine list_end ?_
            refine hK74 _ _ ?_
            refine go_ret_ ?_
            refine ret_one 10 (.bool (!(decide ((E.getD f.toNat (0, 0)).2 ∈ (spread E L ((E.getD e.toNat (0, 0)).1) v))))) hA ?_
            exact ans_b' (by unfold apartB otherE eA eB; rw [if_neg hhb28, if_neg (by have := hhb34; omega)]; first | rw [if_pos hhb72, if_pos hhb42] | rw [if_pos hhb72, if_neg hhb42] | rw [if_neg hhb72, if_pos hhb42] | rw [if_neg hhb72, if_neg hhb42]) H.below
          · have hhb72 := of_decide_eq_false hb72
            refine go_skip ?_
            refine hK69 _ _ ?_
            refine go_seq fun K84 hK84 => ?_
            refine region_list ?_
            refine q_list 0 3 [(64, .agg #[.int .i64 n, ve]), (65, .agg #[vv, vl])] [(2, .int .i64 v), (14, .int .i64 ((E.getD f.toNat (0, 0)).1)), (64, .agg #[.int .i64 n, ve]), (65, .agg #[vv, vl]), (66, .int .i64 ((E.getD e.toNat (0, 0)).1))] (((Try.prog.info? 24).isSome = true ∧ RowOk (On w71) b2 (0) (Try.prog.cellsOf 24) #[.int .i64 n, ve]) ∧ ((Try.prog.info? 29).isSome = true ∧ RowOk (On w71) b4 (0) (Try.prog.cellsOf 29) #[vv, vl]) ∧ (True) ∧ True) hA H ⟨⟨by kernel_rfl, by exact box_row H 3 rfl 0 2⟩, ⟨by kernel_rfl, by exact box_row H 2 rfl 0 2⟩, trivial, trivial⟩ fun a w85 hA H hG => ?_
            refine list_at 3 ?_; refine q_lit 3 67 27 1 #[(0, .tmp 66)] 3 [(0, .int .i64 ((E.getD e.toNat (0, 0)).1))] [.int .i64 ((E.getD e.toNat (0, 0)).1)] [(2, .int .i64 v), (14, .int .i64 ((E.getD f.toNat (0, 0)).1)), (64, .agg #[.int .i64 n, ve]), (65, .agg #[vv, vl])] hA H fun b86 a w87 H hA hG hge_b86 => ?_
            clear hge_b86
            refine q_list 4 1 [] [(14, .int .i64 ((E.getD f.toNat (0, 0)).1)), (64, .agg #[.int .i64 n, ve]), (65, .agg #[vv, vl]), (67, (.slice (some ⟨b86, 0, none⟩) 1 1)), (68, .int .i64 v)] ((True) ∧ True) hA H ⟨trivial, trivial⟩ fun a w88 hA H hG => ?_
            refine list_at 5 ?_; refine q_call 5 69 131 #[.tmp 64, .tmp 65, .tmp 67, .tmp 68] #[24, 29, 27, 3] [.agg #[.int .i64 n, ve], .agg #[vv, vl], (.slice (some ⟨b86, 0, none⟩) 1 1), .int .i64 v] (fun S v_ w' => Rd S w' v_ (spread E L ((E.getD e.toNat (0, 0)).1) v)) [(14, .int .i64 ((E.getD f.toNat (0, 0)).1))] hA H (by exact spread_any n ve E vv vl V L (.slice (some ⟨b86, 0, none⟩) 1 1) ((E.getD e.toNat (0, 0)).1) v H.at (by omega) ((H.arg hE)) ((H.arg hV)) ((H.arg hL)) ((H.lit 0 rfl (by exact (RowRd.single (α := Int) (a := (E.getD e.toNat (0, 0)).1) (by exact rfl))) rfl (by decide))) hpt (by omega) (by first | exact mem_endsL.2 ⟨_, he, .inl rfl⟩ | exact mem_endsL.2 ⟨_, he, .inr rfl⟩)) fun v89 a w90 S hR91 H hA hG => ?_
            replace H := H.ro hR91
            refine q_list 6 4 [(71, .bool (decide ((E.getD f.toNat (0, 0)).1 ∈ (spread E L ((E.getD e.toNat (0, 0)).1) v))))] [(10, .bool (!(decide ((E.getD f.toNat (0, 0)).1 ∈ (spread E L ((E.getD e.toNat (0, 0)).1) v)))))] ((True) ∧ (Callable Try.prog 24 ∧ CallOk Try.prog (On w90) 24 [v89, .int .i64 ((E.getD f.toNat (0, 0)).1)].toArray (.bool (decide ((E.getD f.toNat (0, 0)).1 ∈ (spread E L ((E.getD e.toNat (0, 0)).1) v))))) ∧ (True) ∧ (True) ∧ True) hA H ⟨trivial, ⟨callable_of, callOk_of fun w hw => by exact in_any v89 (spread E L ((E.getD e.toNat (0, 0)).1) v) ((E.getD f.toNat (0, 0)).1) w (((H.on hw).get 0 rfl))⟩, trivial, trivial, trivial⟩ fun a w93 hA H hG => ?_
            refine list_end ?_
            refine hK84 _ _ ?_
            refine go_ret_ ?_
            refine ret_one 10 (.bool (!(decide ((E.getD f.toNat (0, 0)).1 ∈ (spread E L ((E.getD e.toNat (0, 0)).1) v))))) hA ?_
            exact ans_b' (by unfold apartB otherE eA eB; rw [if_neg hhb28, if_neg (by have := hhb34; omega)]; first | rw [if_pos hhb72, if_pos hhb42] | rw [if_pos hhb72, if_neg hhb42] | rw [if_neg hhb72, if_pos hhb42] | rw [if_neg hhb72, if_neg hhb42]) H.below
  have hM19 : ∀ (a : Act) (w94 : World) (S : Stab) (b9 : Nat) (hge_b9 : w6.heap.size ≤ b9) (b13 : Nat) (hge_b13 : w6.heap.size ≤ b13), EnvOk 73 a (keepEnv [(2, .int .i64 v), (3, .int .i64 e), (4, .int .i64 f), (5, .pointer (some ⟨b2, 0, none⟩)), (6, .pointer (some ⟨b4, 0, none⟩)), (11, .pointer (some ⟨b9, 0, none⟩)), (12, .pointer (some ⟨b13, 0, none⟩)), (19, .agg #[.int .i64 ((E.getD e.toNat (0, 0)).1), .int .i64 ((E.getD e.toNat (0, 0)).2)]), (24, .agg #[.int .i64 ((E.getD f.toNat (0, 0)).1), .int .i64 ((E.getD f.toNat (0, 0)).2)])]) → Fr (org w) w94 S [.box b13 99 [.int .i64 0, .int .i64 0], .box b9 99 [.int .i64 0, .int .i64 0], .box b4 29 [vv, vl], .box b2 24 [.int .i64 n, ve]] → But w6 none w94 → M 2 #[true, true, true, true, true, true, true, true, true, true, true, true, false, false] a w94 := by
    intro a w94 S b9 hge_b9 b13 hge_b13 hA H hD
    refine (hM _ _ _ _).2 ?_
    refine m_one 12 ?_; refine q_store 12 99 (.tmp 11) (.tmp 19) 1 b9 (0) 99 [.int .i64 0, .int .i64 0] [.int .i64 ((E.getD e.toNat (0, 0)).1), .int .i64 ((E.getD e.toNat (0, 0)).2)] [.int .i64 ((E.getD e.toNat (0, 0)).1), .int .i64 ((E.getD e.toNat (0, 0)).2)] (.agg #[.int .i64 ((E.getD e.toNat (0, 0)).1), .int .i64 ((E.getD e.toNat (0, 0)).2)]) [(2, .int .i64 v), (3, .int .i64 e), (4, .int .i64 f), (5, .pointer (some ⟨b2, 0, none⟩)), (6, .pointer (some ⟨b4, 0, none⟩)), (11, .pointer (some ⟨b9, 0, none⟩)), (12, .pointer (some ⟨b13, 0, none⟩)), (24, .agg #[.int .i64 ((E.getD f.toNat (0, 0)).1), .int .i64 ((E.getD f.toNat (0, 0)).2)])] hA H rfl rfl (Nat.le_of_ble_eq_true (by kernel_rfl)) rfl (fun v hv => by simp only [List.mem_cons, List.not_mem_nil, or_false] at hv; rcases hv with rfl | rfl; exact rfl; exact rfl) fun a w95 H hA hG => ?_
    replace H : Fr _ _ _ [.box b13 99 [.int .i64 0, .int .i64 0], .box b9 99 [.int .i64 ((E.getD e.toNat (0, 0)).1), .int .i64 ((E.getD e.toNat (0, 0)).2)], .box b4 29 [vv, vl], .box b2 24 [.int .i64 n, ve]] := H
    replace hD := hD.grown hG (fun b_ hb_ => .inr (by cases hb_; assumption))
    refine ⟨fun _ => hD, ?_⟩
    exact (hM _ _ _ _).1 (hM18 _ _ _ b9 hge_b9 b13 hge_b13 (env_sub _ hA) H hD)
  have hM20 : ∀ (a : Act) (w96 : World) (S : Stab) (b9 : Nat) (hge_b9 : w6.heap.size ≤ b9), EnvOk 73 a (keepEnv [(2, .int .i64 v), (3, .int .i64 e), (4, .int .i64 f), (5, .pointer (some ⟨b2, 0, none⟩)), (6, .pointer (some ⟨b4, 0, none⟩)), (11, .pointer (some ⟨b9, 0, none⟩)), (19, .agg #[.int .i64 ((E.getD e.toNat (0, 0)).1), .int .i64 ((E.getD e.toNat (0, 0)).2)]), (24, .agg #[.int .i64 ((E.getD f.toNat (0, 0)).1), .int .i64 ((E.getD f.toNat (0, 0)).2)])]) → Fr (org w) w96 S [.box b9 99 [.int .i64 0, .int .i64 0], .box b4 29 [vv, vl], .box b2 24 [.int .i64 n, ve]] → But w6 none w96 → M 3 #[true, true, true, true, true, true, true, true, true, true, true, false, false, false] a w96 := by
    intro a w96 S b9 hge_b9 hA H hD
    refine (hM _ _ _ _).2 ?_
    refine m_one 11 ?_; refine q_alloc 11 12 99 [.int .i64 0, .int .i64 0] [(2, .int .i64 v), (3, .int .i64 e), (4, .int .i64 f), (5, .pointer (some ⟨b2, 0, none⟩)), (6, .pointer (some ⟨b4, 0, none⟩)), (11, .pointer (some ⟨b9, 0, none⟩)), (19, .agg #[.int .i64 ((E.getD e.toNat (0, 0)).1), .int .i64 ((E.getD e.toNat (0, 0)).2)]), (24, .agg #[.int .i64 ((E.getD f.toNat (0, 0)).1), .int .i64 ((E.getD f.toNat (0, 0)).2)])] hA H fun b97 a w98 H hA hG hge_b97 => ?_
    replace hge_b97 := Nat.le_trans hD.1 hge_b97
    replace hD := hD.below hG
    refine ⟨fun _ => hD, ?_⟩
    exact (hM _ _ _ _).1 (hM19 _ _ _ b9 hge_b9 b97 hge_b97 (env_sub _ hA) H hD)
  have hM21 : ∀ (a : Act) (w99 : World) (S : Stab) (b11 : Nat) (hge_b11 : w6.heap.size ≤ b11), EnvOk 73 a (keepEnv [(2, .int .i64 v), (3, .int .i64 e), (4, .int .i64 f), (5, .pointer (some ⟨b2, 0, none⟩)), (6, .pointer (some ⟨b4, 0, none⟩)), (12, .pointer (some ⟨b11, 0, none⟩)), (19, .agg #[.int .i64 ((E.getD e.toNat (0, 0)).1), .int .i64 ((E.getD e.toNat (0, 0)).2)]), (24, .agg #[.int .i64 ((E.getD f.toNat (0, 0)).1), .int .i64 ((E.getD f.toNat (0, 0)).2)])]) → Fr (org w) w99 S [.box b11 99 [.int .i64 0, .int .i64 0], .box b4 29 [vv, vl], .box b2 24 [.int .i64 n, ve]] → But w6 none w99 → M 3 #[true, true, true, true, true, true, true, true, true, true, false, true, false, false] a w99 := by
    intro a w99 S b11 hge_b11 hA H hD
    refine (hM _ _ _ _).2 ?_
    refine m_one 10 ?_; refine q_alloc 10 11 99 [.int .i64 0, .int .i64 0] [(2, .int .i64 v), (3, .int .i64 e), (4, .int .i64 f), (5, .pointer (some ⟨b2, 0, none⟩)), (6, .pointer (some ⟨b4, 0, none⟩)), (12, .pointer (some ⟨b11, 0, none⟩)), (19, .agg #[.int .i64 ((E.getD e.toNat (0, 0)).1), .int .i64 ((E.getD e.toNat (0, 0)).2)]), (24, .agg #[.int .i64 ((E.getD f.toNat (0, 0)).1), .int .i64 ((E.getD f.toNat (0, 0)).2)])] hA H fun b100 a w101 H hA hG hge_b100 => ?_
    replace hge_b100 := Nat.le_trans hD.1 hge_b100
    replace H : Fr _ _ _ [.box b11 99 [.int .i64 0, .int .i64 0], .box b100 99 [.int .i64 0, .int .i64 0], .box b4 29 [vv, vl], .box b2 24 [.int .i64 n, ve]] := H.sink 1 1
    replace hD := hD.below hG
    refine ⟨fun _ => hD, ?_⟩
    exact (hM _ _ _ _).1 (hM19 _ _ _ b100 hge_b100 b11 hge_b11 (env_sub _ hA) H hD)
  have hM22 : ∀ (a : Act) (w102 : World) (S : Stab), EnvOk 73 a (keepEnv [(2, .int .i64 v), (3, .int .i64 e), (4, .int .i64 f), (5, .pointer (some ⟨b2, 0, none⟩)), (6, .pointer (some ⟨b4, 0, none⟩)), (19, .agg #[.int .i64 ((E.getD e.toNat (0, 0)).1), .int .i64 ((E.getD e.toNat (0, 0)).2)]), (24, .agg #[.int .i64 ((E.getD f.toNat (0, 0)).1), .int .i64 ((E.getD f.toNat (0, 0)).2)])]) → Fr (org w) w102 S [.box b4 29 [vv, vl], .box b2 24 [.int .i64 n, ve]] → But w6 none w102 → M 4 #[true, true, true, true, true, true, true, true, true, true, false, false, false, false] a w102 := by
    intro a w102 S  hA H hD
    refine (hM _ _ _ _).2 ?_
    refine m_many [10, 11] fun i_ hi_ => ?_
    simp only [List.mem_cons, List.not_mem_nil, or_false] at hi_
    rcases hi_ with rfl | rfl
    · skip
      refine q_alloc 10 11 99 [.int .i64 0, .int .i64 0] [(2, .int .i64 v), (3, .int .i64 e), (4, .int .i64 f), (5, .pointer (some ⟨b2, 0, none⟩)), (6, .pointer (some ⟨b4, 0, none⟩)), (19, .agg #[.int .i64 ((E.getD e.toNat (0, 0)).1), .int .i64 ((E.getD e.toNat (0, 0)).2)]), (24, .agg #[.int .i64 ((E.getD f.toNat (0, 0)).1), .int .i64 ((E.getD f.toNat (0, 0)).2)])] hA H fun b103 a w104 H hA hG hge_b103 => ?_
      replace hge_b103 := Nat.le_trans hD.1 hge_b103
      replace hD := hD.below hG
      refine ⟨fun _ => hD, ?_⟩
      exact (hM _ _ _ _).1 (hM20 _ _ _ b103 hge_b103 (env_sub _ hA) H hD)
    · skip
      refine q_alloc 11 12 99 [.int .i64 0, .int .i64 0] [(2, .int .i64 v), (3, .int .i64 e), (4, .int .i64 f), (5, .pointer (some ⟨b2, 0, none⟩)), (6, .pointer (some ⟨b4, 0, none⟩)), (19, .agg #[.int .i64 ((E.getD e.toNat (0, 0)).1), .int .i64 ((E.getD e.toNat (0, 0)).2)]), (24, .agg #[.int .i64 ((E.getD f.toNat (0, 0)).1), .int .i64 ((E.getD f.toNat (0, 0)).2)])] hA H fun b105 a w106 H hA hG hge_b105 => ?_
      replace hge_b105 := Nat.le_trans hD.1 hge_b105
      replace hD := hD.below hG
      refine ⟨fun _ => hD, ?_⟩
      exact (hM _ _ _ _).1 (hM21 _ _ _ b105 hge_b105 (env_sub _ hA) H hD)
  exact hM22 _ _ _ (env_sub _ hA) H hD

set_option maxRecDepth 100000 in
set_option maxHeartbeats 1000000 in
theorem tog_any (n : Int) (ve : Value) (E : List (Int × Int)) (vv vl : Value) (V L : List Int) (e f : Int) (w : World) (hn : -9223372036854775808 ≤ n ∧ n ≤ 9223372036854775807) (hE : Rd (· < w.heap.size) w ve E) (hV : Rd (· < w.heap.size) w vv V) (hL : Rd (· < w.heap.size) w vl L) (hpt : partE n E V L = 0) (he : e ∈ L) (hf : f ∈ L) :
  Calls Try.prog 84 [.agg #[.int .i64 n, ve], .agg #[vv, vl], .int .i64 e, .int .i64 f].toArray w (Ans (.bool (togB E V L e f)) w) := by
  obtain ⟨hp1, hp2, hp3, hp4⟩ := partE_0 hpt
  have hr9 := rightE_0 hp1
  have hv9 := rises_len hp2 (by omega)
  refine enter Try.f84 27 Try.func84 fun a hA => ?_
  replace hA := env_sub [(0, .agg #[.int .i64 n, ve]), (1, .agg #[vv, vl]), (2, .int .i64 e), (3, .int .i64 f)] hA
  have H := Fr.start (org w)
  refine go_seq fun K1 hK1 => ?_
  refine region_list ?_
  refine list_at 0 ?_; refine q_box 0 4 24 (.tmp 0) (.agg #[.int .i64 n, ve]) [.int .i64 n, ve] [(1, .agg #[vv, vl]), (2, .int .i64 e), (3, .int .i64 f)] hA H fun b2 a w3 H hA hG hge_b2 => ?_
  clear hge_b2
  refine list_at 1 ?_; refine q_box 1 5 29 (.tmp 1) (.agg #[vv, vl]) [vv, vl] [(2, .int .i64 e), (3, .int .i64 f), (4, .pointer (some ⟨b2, 0, none⟩))] hA H fun b4 a w5 H hA hG hge_b4 => ?_
  clear hge_b4
  refine q_list 2 1 [] [(2, .int .i64 e), (3, .int .i64 f), (4, .pointer (some ⟨b2, 0, none⟩)), (5, .pointer (some ⟨b4, 0, none⟩))] ((True) ∧ True) hA H ⟨trivial, trivial⟩ fun a w6 hA H hG => ?_
  refine list_end ?_
  refine hK1 _ _ ?_
  refine go_seq fun K7 hK7 => ?_
  refine go_seq fun K8 hK8 => ?_
  refine q_reg [] [(2, .int .i64 e), (3, .int .i64 f), (4, .pointer (some ⟨b2, 0, none⟩)), (5, .pointer (some ⟨b4, 0, none⟩)), (9, .int .i64 0)] ((True) ∧ True) hA H ⟨trivial, trivial⟩ fun a w9 hA H hG => ?_
  refine hK8 _ _ ?_
  refine go_block 0 ?_
  refine go_loop_ (Int) (fun x_ a W => (fun (i : Int) => EnvOk 27 a (keepEnv [(2, .int .i64 e), (3, .int .i64 f), (4, .pointer (some ⟨b2, 0, none⟩)), (5, .pointer (some ⟨b4, 0, none⟩)), (9, .int .i64 i)]) ∧ (∃ S, Fr (org w) W S [.box b4 29 [vv, vl], .box b2 24 [.int .i64 n, ve]]) ∧ 0 ≤ i ∧ ∀ j : Nat, (j : Int) < i → apartB E L (V.getD j 0) e f = false) x_) (fun x_ => (fun (i : Int) => ((V.length : Int) - i).toNat) x_) (0) ?_ (fun i a w11 hI => ?_)
  · (try dsimp only); exact ⟨env_sub _ hA, ⟨_, H⟩, by omega, fun j hj => by omega⟩
  obtain ⟨hA, ⟨S, H⟩, h0, hok⟩ := hI
  try dsimp only at h0 hok
  refine go_seq fun K12 hK12 => ?_
  refine go_seq fun K13 hK13 => ?_
  refine q_reg [(12, vv), (13, .int .i64 (V.length : Int))] [(2, .int .i64 e), (3, .int .i64 f), (4, .pointer (some ⟨b2, 0, none⟩)), (5, .pointer (some ⟨b4, 0, none⟩)), (9, .int .i64 i), (14, .bool (decide (i < (V.length : Int))))] ((True) ∧ (0 < Try.prog.cellsOf 27) ∧ (CellOk (On w11) b4 (0 + 0) (vv)) ∧ (LenOk vv (V.length : Int)) ∧ (True) ∧ True) hA H ⟨trivial, by decide +kernel, by exact box_cell H 0 rfl 0, by exact len_ok (H.arg hV), trivial, trivial⟩ fun a w14 hA H hG => ?_
  refine hK13 _ _ ?_
  refine go_cond hA (.tmp 14) (decide (i < (V.length : Int))) (fun hb15 => ?_) (fun hb15 => ?_)
  · have hhb15 := of_decide_eq_true hb15
    refine go_skip ?_
    refine hK12 _ _ ?_
    refine go_seq fun K16 hK16 => ?_
    refine go_block 1 ?_
    refine go_seq fun K17 hK17 => ?_
    refine q_draw [(17, .agg #[.int .i64 n, ve]), (18, .agg #[vv, vl]), (20, vv), (23, .int .i64 (V.getD i.toNat 0)), (26, .bool (apartB E L (V.getD i.toNat 0) e f))] [(2, .int .i64 e), (3, .int .i64 f), (4, .pointer (some ⟨b2, 0, none⟩)), (5, .pointer (some ⟨b4, 0, none⟩)), (9, .int .i64 i), (26, .bool (apartB E L (V.getD i.toNat 0) e f))] (((Try.prog.info? 24).isSome = true ∧ RowOk (On w14) b2 (0) (Try.prog.cellsOf 24) #[.int .i64 n, ve]) ∧ ((Try.prog.info? 29).isSome = true ∧ RowOk (On w14) b4 (0) (Try.prog.cellsOf 29) #[vv, vl]) ∧ (0 < Try.prog.cellsOf 27) ∧ (CellOk (On w14) b4 (0 + 0) (vv)) ∧ (True) ∧ ((Try.prog.info? 3).isSome = true ∧ IdxOk vv i) ∧ (CellOk (On w14) (hdB vv) (hdO vv + i.toNat * 1) (.int .i64 (V.getD i.toNat 0))) ∧ (True) ∧ (True) ∧ (Callable Try.prog 106 ∧ CallOk Try.prog (On w14) 106 [.agg #[.int .i64 n, ve], .agg #[vv, vl], .int .i64 (V.getD i.toNat 0), .int .i64 e, .int .i64 f].toArray (.bool (apartB E L (V.getD i.toNat 0) e f))) ∧ True) hA H ⟨⟨by kernel_rfl, by exact box_row H 1 rfl 0 2⟩, ⟨by kernel_rfl, by exact box_row H 0 rfl 0 2⟩, by decide +kernel, by exact box_cell H 0 rfl 0, trivial, ⟨by kernel_rfl, by exact idx_ok (H.arg hV) (by omega) (by omega)⟩, by exact cell_flat (i := i) (H.arg hV) (by omega) (by omega) 0 0, trivial, trivial, ⟨callable_of, callOk_of fun w hw => by exact apart_any n ve E vv vl V L (V.getD i.toNat 0) e f w (by omega) (((H.on hw).arg hE)) (((H.on hw).arg hV)) (((H.on hw).arg hL)) hpt he hf⟩, trivial⟩ fun a w18 hA H hG => ?_
    refine hK17 _ _ ?_
    refine go_cond hA (.tmp 26) (apartB E L (V.getD i.toNat 0) e f) (fun hb19 => ?_) (fun hb19 => ?_)
    · have hhb19 := hb19
      refine go_seq fun K20 hK20 => ?_
      refine q_reg [] [(8, .bool false)] ((True) ∧ True) hA H ⟨trivial, trivial⟩ fun a w21 hA H hG => ?_
      refine hK20 _ _ ?_
      refine go_ret_ ?_
      refine ret_one 8 (.bool false) hA ?_
      exact ans_b' (by unfold togB; exact (decide_eq_false (fun q => by have z := q i.toNat (by omega); rw [z] at hhb19; cases hhb19)).symm) H.below
    · have hhb19 := hb19
      refine go_skip ?_
      refine hK16 _ _ ?_
      refine q_reg [] [(2, .int .i64 e), (3, .int .i64 f), (4, .pointer (some ⟨b2, 0, none⟩)), (5, .pointer (some ⟨b4, 0, none⟩)), (9, .int .i64 (i + 1))] ((True) ∧ (InR .i64 (i + 1)) ∧ (True) ∧ True) hA H ⟨trivial, ⟨by omega, by omega⟩, trivial, trivial⟩ fun a w22 hA H hG => ?_
      refine ⟨(i + 1), ⟨env_sub _ hA, ⟨_, H⟩, ?_⟩, ?_⟩
      · (try dsimp only); exact ⟨by omega, fun j hj => if q : (j : Int) = i then (by rw [show j = i.toNat by omega]; exact hhb19) else hok j (by omega)⟩
      · (try dsimp only); omega
  · have hhb15 := of_decide_eq_false hb15
    refine go_exit 0 ?_
    refine hK7 _ _ ?_
    refine go_seq fun K23 hK23 => ?_
    refine q_reg [] [(8, .bool true)] ((True) ∧ True) hA H ⟨trivial, trivial⟩ fun a w24 hA H hG => ?_
    refine hK23 _ _ ?_
    refine go_ret_ ?_
    refine ret_one 8 (.bool true) hA ?_
    exact ans_b' (by unfold togB; exact (decide_eq_true (fun j hj => hok j (by omega))).symm) H.below

end Go.Proofs.Ytahonnlgkmimlaa

set_option linter.unusedSimpArgs false
set_option linter.unusedVariables false
namespace Go.Proofs.Ytahonnlgkmimlaa
open Go.RowKit

set_option maxRecDepth 100000 in
set_option maxHeartbeats 4000000 in
theorem rblocks_any (n : Int) (ve : Value) (E : List (Int × Int)) (vv vl : Value) (V L : List Int) (o : Orig) (hn : -9223372036854775808 ≤ n ∧ n ≤ 9223372036854775807) (hE : Rd (· < o.w.heap.size) o.w ve E) (hV : Rd (· < o.w.heap.size) o.w vv V) (hL : Rd (· < o.w.heap.size) o.w vl L) (hpt : partE n E V L = 0) :
  Calls Try.prog 51 [.agg #[.int .i64 n, ve], .agg #[vv, vl]].toArray o.w (Giv o (fun S v w' => Rd S w' v (blocksL n E V L))) := by
  obtain ⟨hp1, hp2, hp3, hp4⟩ := partE_0 hpt
  have hr9 := rightE_0 hp1
  have hl9 := rises_len hp3 (by omega)
  refine enter Try.f51 60 Try.func51 fun a hA => ?_
  replace hA := env_sub [(0, .agg #[.int .i64 n, ve]), (1, .agg #[vv, vl])] hA
  have H := Fr.start o
  refine go_seq fun K1 hK1 => ?_
  refine region_list ?_
  refine list_at 0 ?_; refine q_box 0 2 24 (.tmp 0) (.agg #[.int .i64 n, ve]) [.int .i64 n, ve] [(1, .agg #[vv, vl])] hA H fun b2 a w3 H hA hG hge_b2 => ?_
  clear hge_b2
  refine list_at 1 ?_; refine q_box 1 3 29 (.tmp 1) (.agg #[vv, vl]) [vv, vl] [(2, .pointer (some ⟨b2, 0, none⟩))] hA H fun b4 a w5 H hA hG hge_b4 => ?_
  clear hge_b4
  refine q_list 2 1 [] [(2, .pointer (some ⟨b2, 0, none⟩)), (3, .pointer (some ⟨b4, 0, none⟩))] ((True) ∧ True) hA H ⟨trivial, trivial⟩ fun a w6 hA H hG => ?_
  refine list_end ?_
  refine hK1 _ _ ?_
  refine go_seq fun K7 hK7 => ?_
  refine q_reg [] [(2, .pointer (some ⟨b2, 0, none⟩)), (3, .pointer (some ⟨b4, 0, none⟩)), (5, (.slice none 0 0))] ((True) ∧ True) hA H ⟨trivial, trivial⟩ fun a w8 hA H hG => ?_
  refine hK7 _ _ ?_
  refine go_seq fun K9 hK9 => ?_
  refine go_seq fun K10 hK10 => ?_
  refine q_reg [] [(2, .pointer (some ⟨b2, 0, none⟩)), (3, .pointer (some ⟨b4, 0, none⟩)), (5, (.slice none 0 0)), (6, .int .i64 0)] ((True) ∧ True) hA H ⟨trivial, trivial⟩ fun a w11 hA H hG => ?_
  refine hK10 _ _ ?_
  refine go_block 0 ?_
  replace H := H.newRow (α := List Int × List Int) 29
  refine go_loop_ (Int × Value × List (List Int × List Int)) (fun x_ a W => (fun (i : Int) (vr : Value) (l : List (List Int × List Int)) => EnvOk 60 a (keepEnv [(2, .pointer (some ⟨b2, 0, none⟩)), (3, .pointer (some ⟨b4, 0, none⟩)), (5, vr), (6, .int .i64 i)]) ∧ (∃ S, Fr o W S [.row 29 vr l, .box b4 29 [vv, vl], .box b2 24 [.int .i64 n, ve]]) ∧ 0 ≤ i ∧ i ≤ (L.length : Int) ∧ (l.length : Int) ≤ i ∧ l = repsL n E V L (L.take i.toNat)) x_.1 x_.2.1 x_.2.2) (fun x_ => (fun (i : Int) (vr : Value) (l : List (List Int × List Int)) => ((L.length : Int) - i).toNat) x_.1 x_.2.1 x_.2.2) (0, .slice none 0 0, []) ?_ (fun x_ a w13 hI => ?_)
  · (try dsimp only); exact ⟨env_sub _ hA, ⟨_, H⟩, by omega, by omega, by simp, by simp [repsL]⟩
  obtain ⟨i, vr, l⟩ := x_
  obtain ⟨hA, ⟨S, H⟩, h0, h0b, h1, hi⟩ := hI
  try dsimp only at h0 h0b h1 hi
  replace H : Fr _ _ _ [.row 29 vr l, .box b4 29 [vv, vl], .box b2 24 [.int .i64 n, ve]] := H
  refine go_seq fun K14 hK14 => ?_
  refine go_seq fun K15 hK15 => ?_
  refine q_reg [(11, vl), (12, .int .i64 (L.length : Int))] [(2, .pointer (some ⟨b2, 0, none⟩)), (3, .pointer (some ⟨b4, 0, none⟩)), (5, vr), (6, .int .i64 i), (13, .bool (decide (i < (L.length : Int))))] ((True) ∧ (0 < Try.prog.cellsOf 27) ∧ (CellOk (On w13) b4 (0 + 1) (vl)) ∧ (LenOk vl (L.length : Int)) ∧ (True) ∧ True) hA H ⟨trivial, by decide +kernel, by exact box_cell H 1 rfl 1, by exact len_ok (H.arg hL), trivial, trivial⟩ fun a w16 hA H hG => ?_
  refine hK15 _ _ ?_
  refine go_cond hA (.tmp 13) (decide (i < (L.length : Int))) (fun hb17 => ?_) (fun hb17 => ?_)
  · have hhb17 := of_decide_eq_true hb17
    refine go_skip ?_
    refine hK14 _ _ ?_
    refine go_seq fun K18 hK18 => ?_
    refine go_block 1 ?_
    refine go_seq fun K19 hK19 => ?_
    have he : (L.getD i.toNat 0) ∈ L := mem_getD.2 ⟨i.toNat, by omega, rfl⟩
    refine q_reg [] [(2, .pointer (some ⟨b2, 0, none⟩)), (3, .pointer (some ⟨b4, 0, none⟩)), (5, vr), (6, .int .i64 i), (7, (.slice none 0 0))] ((True) ∧ True) hA H ⟨trivial, trivial⟩ fun a w20 hA H hG => ?_
    refine hK19 _ _ ?_
    refine go_seq fun K21 hK21 => ?_
    refine go_seq fun K22 hK22 => ?_
    refine q_reg [] [(2, .pointer (some ⟨b2, 0, none⟩)), (3, .pointer (some ⟨b4, 0, none⟩)), (5, vr), (6, .int .i64 i), (7, (.slice none 0 0)), (8, .int .i64 0)] ((True) ∧ True) hA H ⟨trivial, trivial⟩ fun a w23 hA H hG => ?_
    refine hK22 _ _ ?_
    refine go_block 2 ?_
    replace H := H.newRow (α := Int) 3
    refine go_loop_ (Int × Value × List Int) (fun x_ a W => (fun (k : Int) (vc : Value) (c : List Int) => EnvOk 60 a (keepEnv [(2, .pointer (some ⟨b2, 0, none⟩)), (3, .pointer (some ⟨b4, 0, none⟩)), (5, vr), (6, .int .i64 i), (7, vc), (8, .int .i64 k)]) ∧ (∃ S, Fr o W S [.row 3 vc c, .row 29 vr l, .box b4 29 [vv, vl], .box b2 24 [.int .i64 n, ve]]) ∧ 0 ≤ k ∧ k ≤ (L.length : Int) ∧ (c.length : Int) ≤ k ∧ c = (L.take k.toNat).filter (togB E V L (L.getD i.toNat 0))) x_.1 x_.2.1 x_.2.2) (fun x_ => (fun (k : Int) (vc : Value) (c : List Int) => ((L.length : Int) - k).toNat) x_.1 x_.2.1 x_.2.2) (0, .slice none 0 0, []) ?_ (fun x_ a w25 hI => ?_)
    · (try dsimp only); exact ⟨env_sub _ hA, ⟨_, H⟩, by omega, by omega, by simp, by simp⟩
    obtain ⟨k, vc, c⟩ := x_
    obtain ⟨hA, ⟨S, H⟩, k0, k0b, k1, hc⟩ := hI
    try dsimp only at k0 k0b k1 hc
    replace H : Fr _ _ _ [.row 3 vc c, .row 29 vr l, .box b4 29 [vv, vl], .box b2 24 [.int .i64 n, ve]] := H
    refine go_seq fun K26 hK26 => ?_
    refine go_seq fun K27 hK27 => ?_
    refine q_reg [(18, vl), (19, .int .i64 (L.length : Int))] [(2, .pointer (some ⟨b2, 0, none⟩)), (3, .pointer (some ⟨b4, 0, none⟩)), (5, vr), (6, .int .i64 i), (7, vc), (8, .int .i64 k), (20, .bool (decide (k < (L.length : Int))))] ((True) ∧ (0 < Try.prog.cellsOf 27) ∧ (CellOk (On w25) b4 (0 + 1) (vl)) ∧ (LenOk vl (L.length : Int)) ∧ (True) ∧ True) hA H ⟨trivial, by decide +kernel, by exact box_cell H 2 rfl 1, by exact len_ok (H.arg hL), trivial, trivial⟩ fun a w28 hA H hG => ?_
    refine hK27 _ _ ?_
    refine go_cond hA (.tmp 20) (decide (k < (L.length : Int))) (fun hb29 => ?_) (fun hb29 => ?_)
    · have hhb29 := of_decide_eq_true hb29
      refine go_skip ?_
      refine hK26 _ _ ?_
      refine go_seq fun K30 hK30 => ?_
      refine go_block 3 ?_
      refine go_seq fun K31 hK31 => ?_
      have hf : (L.getD k.toNat 0) ∈ L := mem_getD.2 ⟨k.toNat, by omega, rfl⟩
      refine q_draw [(23, .agg #[.int .i64 n, ve]), (24, .agg #[vv, vl]), (26, vl), (29, .int .i64 (L.getD i.toNat 0)), (31, vl), (34, .int .i64 (L.getD k.toNat 0)), (35, .bool (togB E V L (L.getD i.toNat 0) (L.getD k.toNat 0)))] [(2, .pointer (some ⟨b2, 0, none⟩)), (3, .pointer (some ⟨b4, 0, none⟩)), (5, vr), (6, .int .i64 i), (7, vc), (8, .int .i64 k), (35, .bool (togB E V L (L.getD i.toNat 0) (L.getD k.toNat 0)))] (((Try.prog.info? 24).isSome = true ∧ RowOk (On w28) b2 (0) (Try.prog.cellsOf 24) #[.int .i64 n, ve]) ∧ ((Try.prog.info? 29).isSome = true ∧ RowOk (On w28) b4 (0) (Try.prog.cellsOf 29) #[vv, vl]) ∧ (0 < Try.prog.cellsOf 27) ∧ (CellOk (On w28) b4 (0 + 1) (vl)) ∧ (True) ∧ ((Try.prog.info? 3).isSome = true ∧ IdxOk vl i) ∧ (CellOk (On w28) (hdB vl) (hdO vl + i.toNat * 1) (.int .i64 (L.getD i.toNat 0))) ∧ (0 < Try.prog.cellsOf 27) ∧ (CellOk (On w28) b4 (0 + 1) (vl)) ∧ (True) ∧ ((Try.prog.info? 3).isSome = true ∧ IdxOk vl k) ∧ (CellOk (On w28) (hdB vl) (hdO vl + k.toNat * 1) (.int .i64 (L.getD k.toNat 0))) ∧ (Callable Try.prog 84 ∧ CallOk Try.prog (On w28) 84 [.agg #[.int .i64 n, ve], .agg #[vv, vl], .int .i64 (L.getD i.toNat 0), .int .i64 (L.getD k.toNat 0)].toArray (.bool (togB E V L (L.getD i.toNat 0) (L.getD k.toNat 0)))) ∧ True) hA H ⟨⟨by kernel_rfl, by exact box_row H 3 rfl 0 2⟩, ⟨by kernel_rfl, by exact box_row H 2 rfl 0 2⟩, by decide +kernel, by exact box_cell H 2 rfl 1, trivial, ⟨by kernel_rfl, by exact idx_ok (H.arg hL) (by omega) (by omega)⟩, by exact cell_flat (i := i) (H.arg hL) (by omega) (by omega) 0 0, by decide +kernel, by exact box_cell H 2 rfl 1, trivial, ⟨by kernel_rfl, by exact idx_ok (H.arg hL) (by omega) (by omega)⟩, by exact cell_flat (i := k) (H.arg hL) (by omega) (by omega) 0 0, ⟨callable_of, callOk_of fun w hw => by exact tog_any n ve E vv vl V L (L.getD i.toNat 0) (L.getD k.toNat 0) w (by omega) (((H.on hw).arg hE)) (((H.on hw).arg hV)) (((H.on hw).arg hL)) hpt he hf⟩, trivial⟩ fun a w32 hA H hG => ?_
      refine hK31 _ _ ?_
      refine go_cond hA (.tmp 35) (togB E V L (L.getD i.toNat 0) (L.getD k.toNat 0)) (fun hb33 => ?_) (fun hb33 => ?_)
      · have hhb33 := hb33
        refine region_list ?_
        refine q_list 0 6 [(38, vl), (41, .int .i64 (L.getD k.toNat 0))] [(2, .pointer (some ⟨b2, 0, none⟩)), (3, .pointer (some ⟨b4, 0, none⟩)), (5, vr), (6, .int .i64 i), (8, .int .i64 k), (36, vc), (41, .int .i64 (L.getD k.toNat 0))] ((True) ∧ (0 < Try.prog.cellsOf 27) ∧ (CellOk (On w32) b4 (0 + 1) (vl)) ∧ (True) ∧ ((Try.prog.info? 3).isSome = true ∧ IdxOk vl k) ∧ (CellOk (On w32) (hdB vl) (hdO vl + k.toNat * 1) (.int .i64 (L.getD k.toNat 0))) ∧ True) hA H ⟨trivial, by decide +kernel, by exact box_cell H 2 rfl 1, trivial, ⟨by kernel_rfl, by exact idx_ok (H.arg hL) (by omega) (by omega)⟩, by exact cell_flat (i := k) (H.arg hL) (by omega) (by omega) 0 0, trivial⟩ fun a w34 hA H hG => ?_
        refine list_at 6 ?_; refine q_lit 6 42 27 1 #[(0, .tmp 41)] 3 [(0, .int .i64 (L.getD k.toNat 0))] [.int .i64 (L.getD k.toNat 0)] [(2, .pointer (some ⟨b2, 0, none⟩)), (3, .pointer (some ⟨b4, 0, none⟩)), (5, vr), (6, .int .i64 i), (8, .int .i64 k), (36, vc)] hA H fun b35 a w36 H hA hG hge_b35 => ?_
        clear hge_b35
        refine list_at 7 ?_; refine q_push 7 43 (.tmp 36) (.tmp 42) 1 0 b35 1 1 vc c [(L.getD k.toNat 0)] [.int .i64 (L.getD k.toNat 0)] [(2, .pointer (some ⟨b2, 0, none⟩)), (3, .pointer (some ⟨b4, 0, none⟩)), (5, vr), (6, .int .i64 i), (8, .int .i64 k)] hA H Try.E27 rfl rfl (by exact (RowRd.single (α := Int) rfl)) rfl (by simp only [List.length_cons, List.length_nil, List.length_append]; omega) (by decide) fun v37 a w38 H hA hG => ?_
        replace H : Fr _ _ _ [.row 3 v37 (c ++ [(L.getD k.toNat 0)]), .row 29 vr l, .box b4 29 [vv, vl], .box b2 24 [.int .i64 n, ve]] := H.drop 0
        refine q_list 8 1 [] [(2, .pointer (some ⟨b2, 0, none⟩)), (3, .pointer (some ⟨b4, 0, none⟩)), (5, vr), (6, .int .i64 i), (7, v37), (8, .int .i64 k)] ((True) ∧ True) hA H ⟨trivial, trivial⟩ fun a w39 hA H hG => ?_
        refine list_end ?_
        refine hK30 _ _ ?_
        refine q_reg [] [(2, .pointer (some ⟨b2, 0, none⟩)), (3, .pointer (some ⟨b4, 0, none⟩)), (5, vr), (6, .int .i64 i), (7, v37), (8, .int .i64 (k + 1))] ((True) ∧ (InR .i64 (k + 1)) ∧ (True) ∧ True) hA H ⟨trivial, ⟨by omega, by omega⟩, trivial, trivial⟩ fun a w40 hA H hG => ?_
        refine ⟨(k + 1, v37, c ++ [(L.getD k.toNat 0)]), ⟨env_sub _ hA, ⟨_, H⟩, ?_⟩, ?_⟩
        · (try dsimp only); exact ⟨by omega, by omega, by (try simp only [List.length_append, List.length_cons, List.length_nil]); omega, by rw [hc, take_snoc k0 (by omega), List.filter_append, List.filter_cons, hb33]; rfl⟩
        · (try dsimp only); omega
      · have hhb33 := hb33
        refine go_skip ?_
        refine hK30 _ _ ?_
        refine q_reg [] [(2, .pointer (some ⟨b2, 0, none⟩)), (3, .pointer (some ⟨b4, 0, none⟩)), (5, vr), (6, .int .i64 i), (7, vc), (8, .int .i64 (k + 1))] ((True) ∧ (InR .i64 (k + 1)) ∧ (True) ∧ True) hA H ⟨trivial, ⟨by omega, by omega⟩, trivial, trivial⟩ fun a w41 hA H hG => ?_
        refine ⟨(k + 1, vc, c), ⟨env_sub _ hA, ⟨_, H⟩, ?_⟩, ?_⟩
        · (try dsimp only); exact ⟨by omega, by omega, by (try simp only [List.length_append, List.length_cons, List.length_nil]); omega, by rw [hc, take_snoc k0 (by omega), List.filter_append, List.filter_cons, hb33]; simp⟩
        · (try dsimp only); omega
    · have hhb29 := of_decide_eq_false hb29
      refine go_exit 2 ?_
      refine hK21 _ _ ?_
      refine go_seq fun K42 hK42 => ?_
      have hcl : c = classL E V L (L.getD i.toNat 0) := by rw [hc, List.take_of_length_le (by omega)]; rfl
      have hcp : 0 < c.length := by rw [hcl]; exact List.length_pos_of_mem (class_self he)
      refine q_draw [(46, .int .i64 (c.getD (0 : Int).toNat 0)), (48, vl), (51, .int .i64 (L.getD i.toNat 0))] [(2, .pointer (some ⟨b2, 0, none⟩)), (3, .pointer (some ⟨b4, 0, none⟩)), (5, vr), (6, .int .i64 i), (7, vc), (52, .bool (decide ((c.getD (0 : Int).toNat 0) = (L.getD i.toNat 0))))] ((True) ∧ ((Try.prog.info? 3).isSome = true ∧ IdxOk vc 0) ∧ (CellOk (On w28) (hdB vc) (hdO vc + (0 : Int).toNat * 1) (.int .i64 (c.getD (0 : Int).toNat 0))) ∧ (0 < Try.prog.cellsOf 27) ∧ (CellOk (On w28) b4 (0 + 1) (vl)) ∧ (True) ∧ ((Try.prog.info? 3).isSome = true ∧ IdxOk vl i) ∧ (CellOk (On w28) (hdB vl) (hdO vl + i.toNat * 1) (.int .i64 (L.getD i.toNat 0))) ∧ (True) ∧ True) hA H ⟨trivial, ⟨by kernel_rfl, by exact idx_ok (H.out 0 rfl) (by omega) (by omega)⟩, by exact cell_flat (i := (0 : Int)) (H.out 0 rfl) (by omega) (by omega) 0 0, by decide +kernel, by exact box_cell H 2 rfl 1, trivial, ⟨by kernel_rfl, by exact idx_ok (H.arg hL) (by omega) (by omega)⟩, by exact cell_flat (i := i) (H.arg hL) (by omega) (by omega) 0 0, trivial, trivial⟩ fun a w43 hA H hG => ?_
      refine hK42 _ _ ?_
      refine go_cond hA (.tmp 52) (decide ((c.getD (0 : Int).toNat 0) = (L.getD i.toNat 0))) (fun hb44 => ?_) (fun hb44 => ?_)
      · have hhb44 := of_decide_eq_true hb44
        have hrs : risesP c (E.length : Int) := by rw [hcl]; exact rises_sub ((rises_iff.1 hp3).1.sublist List.filter_sublist) hp3 fun x hx => (class_mem.1 hx).1
        refine region_list ?_
        refine q_list 0 3 [(54, .agg #[.int .i64 n, ve])] [(2, .pointer (some ⟨b2, 0, none⟩)), (3, .pointer (some ⟨b4, 0, none⟩)), (6, .int .i64 i), (53, vr), (54, .agg #[.int .i64 n, ve]), (55, vc)] ((True) ∧ ((Try.prog.info? 24).isSome = true ∧ RowOk (On w43) b2 (0) (Try.prog.cellsOf 24) #[.int .i64 n, ve]) ∧ (True) ∧ True) hA H ⟨trivial, ⟨by kernel_rfl, by exact box_row H 3 rfl 0 2⟩, trivial, trivial⟩ fun a w45 hA H hG => ?_
        refine list_at 3 ?_; refine q_call 3 56 30 #[.tmp 54, .tmp 55] #[24, 27] [.agg #[.int .i64 n, ve], vc] (fun S v_ w' => Rd S w' v_ ((touchL E c n, c))) [(2, .pointer (some ⟨b2, 0, none⟩)), (3, .pointer (some ⟨b4, 0, none⟩)), (6, .int .i64 i), (53, vr)] hA H (by exact rspan_any n ve E vc c H.at (by omega) ((H.arg hE)) ((H.out 0 rfl)) hrs (by omega) (by omega)) fun v46 a w47 S hR48 H hA hG => ?_
        obtain ⟨v46a, v46b, rfl, hR48a, hR48b⟩ := two_rd hR48
        replace H := H.ro hR48a; replace H := H.ro hR48b
        replace H : Fr _ _ _ [.ro v46b c, .ro v46a (touchL E c n), .row 3 vc c, .row 29 vr l, .box b4 29 [vv, vl], .box b2 24 [.int .i64 n, ve]] := H
        refine list_at 4 ?_; refine q_lit 4 57 56 1 #[(0, .tmp 56)] 29 [(0, .agg #[v46a, v46b])] [v46a, v46b] [(2, .pointer (some ⟨b2, 0, none⟩)), (3, .pointer (some ⟨b4, 0, none⟩)), (6, .int .i64 i), (53, vr)] hA H fun b51 a w52 H hA hG hge_b51 => ?_
        clear hge_b51
        refine list_at 5 ?_; refine q_push 5 58 (.tmp 53) (.tmp 57) 4 0 b51 1 1 vr l [(touchL E c n, c)] [v46a, v46b] [(2, .pointer (some ⟨b2, 0, none⟩)), (3, .pointer (some ⟨b4, 0, none⟩)), (6, .int .i64 i)] hA H Try.E56 rfl rfl (by exact (RowRd.single (α := (List (Int)) × List (Int)) ⟨[_], _, rfl, ⟨_, rfl, rd_slice (H.getS 2 rfl)⟩, ⟨_, rfl, rd_slice (H.getS 1 rfl)⟩⟩)) rfl (by simp only [List.length_cons, List.length_nil, List.length_append]; omega) (by decide) fun v53 a w54 H hA hG => ?_
        replace H : Fr _ _ _ [.ro v46b c, .ro v46a (touchL E c n), .row 3 vc c, .row 29 v53 (l ++ [(touchL E c n, c)]), .box b4 29 [vv, vl], .box b2 24 [.int .i64 n, ve]] := H.drop 0
        refine q_list 6 1 [] [(2, .pointer (some ⟨b2, 0, none⟩)), (3, .pointer (some ⟨b4, 0, none⟩)), (5, v53), (6, .int .i64 i)] ((True) ∧ True) hA H ⟨trivial, trivial⟩ fun a w55 hA H hG => ?_
        refine list_end ?_
        refine hK18 _ _ ?_
        refine q_reg [] [(2, .pointer (some ⟨b2, 0, none⟩)), (3, .pointer (some ⟨b4, 0, none⟩)), (5, v53), (6, .int .i64 (i + 1))] ((True) ∧ (InR .i64 (i + 1)) ∧ (True) ∧ True) hA H ⟨trivial, ⟨by omega, by omega⟩, trivial, trivial⟩ fun a w56 hA H hG => ?_
        replace H := H.drop 2
        replace H := H.drop 1
        replace H := H.drop 0
        refine ⟨(i + 1, v53, l ++ [(touchL E c n, c)]), ⟨env_sub _ hA, ⟨_, H⟩, ?_⟩, ?_⟩
        · (try dsimp only); exact ⟨by omega, by omega, by (try simp only [List.length_append, List.length_cons, List.length_nil]); omega, by rw [hi, repsL_snoc h0 (by omega)]; rw [if_pos (by rw [← hcl]; exact hhb44), hcl]⟩
        · (try dsimp only); omega
      · have hhb44 := of_decide_eq_false hb44
        refine go_skip ?_
        refine hK18 _ _ ?_
        refine q_reg [] [(2, .pointer (some ⟨b2, 0, none⟩)), (3, .pointer (some ⟨b4, 0, none⟩)), (5, vr), (6, .int .i64 (i + 1))] ((True) ∧ (InR .i64 (i + 1)) ∧ (True) ∧ True) hA H ⟨trivial, ⟨by omega, by omega⟩, trivial, trivial⟩ fun a w57 hA H hG => ?_
        replace H := H.drop 0
        refine ⟨(i + 1, vr, l), ⟨env_sub _ hA, ⟨_, H⟩, ?_⟩, ?_⟩
        · (try dsimp only); exact ⟨by omega, by omega, by (try simp only [List.length_append, List.length_cons, List.length_nil]); omega, by rw [hi, repsL_snoc h0 (by omega)]; rw [if_neg (by rw [← hcl]; exact hhb44), List.append_nil]⟩
        · (try dsimp only); omega
  · have hhb17 := of_decide_eq_false hb17
    refine go_exit 0 ?_
    refine hK9 _ _ ?_
    refine go_seq fun K58 hK58 => ?_
    refine q_reg [] [(4, vr)] ((True) ∧ (True) ∧ True) hA H ⟨trivial, trivial, trivial⟩ fun a w59 hA H hG => ?_
    refine hK58 _ _ ?_
    refine go_ret_ ?_
    refine ret_one 4 vr hA ?_
    have ho := (H.give 0 rfl)
    rw [List.take_of_length_le (by omega)] at hi; rw [hi] at ho; exact ⟨_, rfl, ho, H.below⟩

end Go.Proofs.Ytahonnlgkmimlaa

set_option linter.unusedSimpArgs false
set_option linter.unusedVariables false
namespace Go.Proofs.Ytahonnlgkmimlaa
open Go.RowKit

set_option maxRecDepth 100000 in
set_option maxHeartbeats 1000000 in
theorem rsolid_any (n : Int) (ve : Value) (E : List (Int × Int)) (vv vl : Value) (V L : List Int) (w : World) (hn : -9223372036854775808 ≤ n ∧ n ≤ 9223372036854775807) (hE : Rd (· < w.heap.size) w ve E) (hV : Rd (· < w.heap.size) w vv V) (hL : Rd (· < w.heap.size) w vl L) (hpt : partE n E V L = 0) :
  Calls Try.prog 88 [.agg #[.int .i64 n, ve], .agg #[vv, vl]].toArray w (Ans (.bool (solidB n E V L)) w) := by
  refine enter Try.f88 19 Try.func88 fun a hA => ?_
  replace hA := env_sub [(0, .agg #[.int .i64 n, ve]), (1, .agg #[vv, vl])] hA
  have H := Fr.start (org w)
  refine go_seq fun K1 hK1 => ?_
  refine region_list ?_
  refine list_at 0 ?_; refine q_box 0 2 24 (.tmp 0) (.agg #[.int .i64 n, ve]) [.int .i64 n, ve] [(1, .agg #[vv, vl])] hA H fun b2 a w3 H hA hG hge_b2 => ?_
  clear hge_b2
  refine list_at 1 ?_; refine q_box 1 3 29 (.tmp 1) (.agg #[vv, vl]) [vv, vl] [(2, .pointer (some ⟨b2, 0, none⟩))] hA H fun b4 a w5 H hA hG hge_b4 => ?_
  clear hge_b4
  refine q_list 2 1 [] [(2, .pointer (some ⟨b2, 0, none⟩)), (3, .pointer (some ⟨b4, 0, none⟩))] ((True) ∧ True) hA H ⟨trivial, trivial⟩ fun a w6 hA H hG => ?_
  refine list_end ?_
  refine hK1 _ _ ?_
  refine go_seq fun K7 hK7 => ?_
  refine region_list ?_
  refine q_list 0 2 [(6, .agg #[.int .i64 n, ve]), (7, .agg #[vv, vl])] [(3, .pointer (some ⟨b4, 0, none⟩)), (6, .agg #[.int .i64 n, ve]), (7, .agg #[vv, vl])] (((Try.prog.info? 24).isSome = true ∧ RowOk (On w6) b2 (0) (Try.prog.cellsOf 24) #[.int .i64 n, ve]) ∧ ((Try.prog.info? 29).isSome = true ∧ RowOk (On w6) b4 (0) (Try.prog.cellsOf 29) #[vv, vl]) ∧ True) hA H ⟨⟨by kernel_rfl, by exact box_row H 1 rfl 0 2⟩, ⟨by kernel_rfl, by exact box_row H 0 rfl 0 2⟩, trivial⟩ fun a w8 hA H hG => ?_
  refine list_at 2 ?_; refine q_call 2 8 51 #[.tmp 6, .tmp 7] #[24, 29] [.agg #[.int .i64 n, ve], .agg #[vv, vl]] (fun S v_ w' => Rd S w' v_ ((blocksL n E V L))) [(3, .pointer (some ⟨b4, 0, none⟩))] hA H (by exact rblocks_any n ve E vv vl V L H.at (by omega) ((H.arg hE)) ((H.arg hV)) ((H.arg hL)) hpt) fun v9 a w10 S hR11 H hA hG => ?_
  replace H := H.ro hR11
  refine q_list 3 1 [] [(3, .pointer (some ⟨b4, 0, none⟩)), (5, v9)] ((True) ∧ True) hA H ⟨trivial, trivial⟩ fun a w13 hA H hG => ?_
  refine list_end ?_
  refine hK7 _ _ ?_
  refine go_seq fun K14 hK14 => ?_
  obtain ⟨ea15, eb16, hea15c, hea15a, hea15b⟩ := cell_twoC (C := On w13) H.keepsS (H.getS 0 rfl) (0 : Int)
  refine q_draw [(10, .int .i64 ((blocksL n E V L).length : Int)), (15, .agg #[ea15, eb16]), (16, .agg #[vv, vl]), (17, .bool (decide ((((blocksL n E V L).getD (0 : Int).toNat ([], [])).1) = V) && decide ((((blocksL n E V L).getD (0 : Int).toNat ([], [])).2) = L)))] [(4, .bool ((decide (((blocksL n E V L).length : Int) = 1)) && (decide ((((blocksL n E V L).getD (0 : Int).toNat ([], [])).1) = V) && decide ((((blocksL n E V L).getD (0 : Int).toNat ([], [])).2) = L))))] ((True) ∧ (LenOk v9 ((blocksL n E V L).length : Int)) ∧ (True) ∧ (True) ∧ ((decide (((blocksL n E V L).length : Int) = 1)) = true → True) ∧ ((decide (((blocksL n E V L).length : Int) = 1)) = true → (Try.prog.info? 29).isSome = true ∧ IdxOk v9 0) ∧ ((decide (((blocksL n E V L).length : Int) = 1)) = true → (Try.prog.info? 29).isSome = true ∧ RowOk (On w13) (hdB v9) (hdO v9 + (0 : Int).toNat * 2) (Try.prog.cellsOf 29) #[ea15, eb16]) ∧ ((decide (((blocksL n E V L).length : Int) = 1)) = true → (Try.prog.info? 29).isSome = true ∧ RowOk (On w13) b4 (0) (Try.prog.cellsOf 29) #[vv, vl]) ∧ ((decide (((blocksL n E V L).length : Int) = 1)) = true → Callable Try.prog 29 ∧ CallOk Try.prog (On w13) 29 [.agg #[ea15, eb16], .agg #[vv, vl]].toArray (.bool (decide ((((blocksL n E V L).getD (0 : Int).toNat ([], [])).1) = V) && decide ((((blocksL n E V L).getD (0 : Int).toNat ([], [])).2) = L)))) ∧ (True) ∧ (True) ∧ True) hA H ⟨trivial, by exact len_ok (H.get 0 rfl), trivial, trivial, fun _ => trivial, fun hg0 => by replace hg0 := of_decide_eq_true hg0; exact ⟨by kernel_rfl, by exact idx_ok (H.get 0 rfl) (by omega) (by omega)⟩, fun hg0 => by replace hg0 := of_decide_eq_true hg0; exact ⟨by kernel_rfl, by exact hea15c (by omega) (by omega)⟩, fun _ => ⟨by kernel_rfl, by exact box_row H 1 rfl 0 2⟩, fun hg0 => by replace hg0 := of_decide_eq_true hg0; exact ⟨callable_of, callOk_of fun w hw => by exact rsame_any ea15 eb16 vv vl (((blocksL n E V L).getD (0 : Int).toNat ([], [])).1) (((blocksL n E V L).getD (0 : Int).toNat ([], [])).2) V L w ((rd_on (Rd.up H.inb (hea15a (by omega) (by omega))) hw)) ((rd_on (Rd.up H.inb (hea15b (by omega) (by omega))) hw)) (((H.on hw).arg hV)) (((H.on hw).arg hL))⟩, trivial, trivial, trivial⟩ fun a w17 hA H hG => ?_
  refine hK14 _ _ ?_
  refine go_ret_ ?_
  refine ret_one 4 (.bool ((decide (((blocksL n E V L).length : Int) = 1)) && (decide ((((blocksL n E V L).getD (0 : Int).toNat ([], [])).1) = V) && decide ((((blocksL n E V L).getD (0 : Int).toNat ([], [])).2) = L)))) hA ?_
  exact ans_b' (solid_ref hpt) H.below

end Go.Proofs.Ytahonnlgkmimlaa

set_option linter.unusedSimpArgs false
set_option linter.unusedVariables false
namespace Go.Proofs.Ytahonnlgkmimlaa
open Go.RowKit

set_option maxRecDepth 100000 in
set_option maxHeartbeats 8000000 in
theorem rright14_any (vl : Value) (l : List (Int × Int × Int)) (w : World) (hL : Rd (· < w.heap.size) w vl l) (hs : l.length ≤ 100000) :
  Calls Try.prog 60 [vl].toArray w (Ans (.bool (rightK l)) w) := by
  refine enter Try.f60 131 Try.func60 fun a hA => ?_
  replace hA := env_sub [(0, vl)] hA
  have H := Fr.start (org w)
  refine go_seq fun K1 hK1 => ?_
  refine q_reg [] [(0, vl)] ((True) ∧ True) hA H ⟨trivial, trivial⟩ fun a w2 hA H hG => ?_
  refine hK1 _ _ ?_
  refine go_seq fun K3 hK3 => ?_
  refine go_seq fun K4 hK4 => ?_
  refine q_reg [(9, .int .i64 (l.length : Int))] [(0, vl), (10, .bool (decide ((1024 : Int) < (l.length : Int))))] ((True) ∧ (LenOk vl (l.length : Int)) ∧ (True) ∧ True) hA H ⟨trivial, by exact len_ok (H.arg hL), trivial, trivial⟩ fun a w5 hA H hG => ?_
  refine hK4 _ _ ?_
  refine go_cond hA (.tmp 10) (decide ((1024 : Int) < (l.length : Int))) (fun hb6 => ?_) (fun hb6 => ?_)
  · have hhb6 := of_decide_eq_true hb6
    refine go_seq fun K7 hK7 => ?_
    refine q_reg [] [(2, .bool false)] ((True) ∧ True) hA H ⟨trivial, trivial⟩ fun a w8 hA H hG => ?_
    refine hK7 _ _ ?_
    refine go_ret_ ?_
    refine ret_one 2 (.bool false) hA ?_
    exact ans_b' (Eq.symm (by first | exact rk_big (by omega) | exact rk_not (by omega) (okLk_twice k0 (by omega) hhb6) | exact rk_not (i := i.toNat) (by omega) (okLk_no hhb6) | exact rk_err (by rw [← hn, ← he]; exact hhb6))) H.below
  · have hhb6 := of_decide_eq_false hb6
    refine go_skip ?_
    refine hK3 _ _ ?_
    refine go_seq fun K9 hK9 => ?_
    refine region_list ?_
    refine list_at 0 ?_; refine q_alloc 0 3 24 [.int .i64 0, (.slice none 0 0)] [(0, vl)] hA H fun b10 a w11 H hA hG hge_b10 => ?_
    clear hge_b10
    replace H := H.newRow (α := Int × Int) 99
    refine list_end ?_
    refine hK9 _ _ ?_
    refine go_seq fun K12 hK12 => ?_
    refine go_seq fun K13 hK13 => ?_
    refine q_reg [] [(0, vl), (3, .pointer (some ⟨b10, 0, none⟩)), (4, .int .i64 0)] ((True) ∧ True) hA H ⟨trivial, trivial⟩ fun a w14 hA H hG => ?_
    refine hK13 _ _ ?_
    refine go_block 0 ?_
    refine go_loop_ (Int × Int × Value × List (Int × Int)) (fun x_ a W => (fun (i : Int) (n : Int) (ve : Value) (e : List (Int × Int)) => EnvOk 131 a (keepEnv [(0, vl), (3, .pointer (some ⟨b10, 0, none⟩)), (4, .int .i64 i)]) ∧ (∃ S, Fr (org w) W S [.row 99 ve e, .box b10 24 [.int .i64 n, ve]]) ∧ 0 ≤ i ∧ i ≤ (l.length : Int) ∧ (e.length : Int) ≤ i ∧ (∀ j : Nat, (j : Int) < i → okLk l j) ∧ n = nK (l.take i.toNat) ∧ e = eK (l.take i.toNat)) x_.1 x_.2.1 x_.2.2.1 x_.2.2.2) (fun x_ => (fun (i : Int) (n : Int) (ve : Value) (e : List (Int × Int)) => ((l.length : Int) - i).toNat) x_.1 x_.2.1 x_.2.2.1 x_.2.2.2) (0, 0, .slice none 0 0, []) ?_ (fun x_ a w16 hI => ?_)
    · (try dsimp only); exact ⟨env_sub _ hA, ⟨_, H⟩, by omega, by omega, by simp, fun j hj => by omega, by simp [nK], by simp [eK]⟩
    obtain ⟨i, n, ve, e⟩ := x_
    obtain ⟨hA, ⟨S, H⟩, h0, h0b, he1, hok, hn, he⟩ := hI
    try dsimp only at h0 h0b he1 hok hn he
    replace H : Fr _ _ _ [.row 99 ve e, .box b10 24 [.int .i64 n, ve]] := H
    have hn9 : 0 ≤ n ∧ n ≤ 1024 := by rw [hn]; exact nK_bd2 (by omega) hok
    refine go_seq fun K17 hK17 => ?_
    refine go_seq fun K18 hK18 => ?_
    refine q_reg [(13, .int .i64 (l.length : Int))] [(0, vl), (3, .pointer (some ⟨b10, 0, none⟩)), (4, .int .i64 i), (14, .bool (decide (i < (l.length : Int))))] ((True) ∧ (True) ∧ (LenOk vl (l.length : Int)) ∧ (True) ∧ True) hA H ⟨trivial, trivial, by exact len_ok (H.arg hL), trivial, trivial⟩ fun a w19 hA H hG => ?_
    refine hK18 _ _ ?_
    refine go_cond hA (.tmp 14) (decide (i < (l.length : Int))) (fun hb20 => ?_) (fun hb20 => ?_)
    · have hhb20 := of_decide_eq_true hb20
      refine go_skip ?_
      refine hK17 _ _ ?_
      refine go_seq fun K21 hK21 => ?_
      refine go_block 1 ?_
      refine go_seq fun K22 hK22 => ?_
      refine go_seq fun K23 hK23 => ?_
      refine q_draw [(21, .int .i64 ((l.getD i.toNat (0, (0, 0))).1)), (28, .int .i64 (((l.getD i.toNat (0, (0, 0))).2).1)), (36, .int .i64 ((l.getD i.toNat (0, (0, 0))).1)), (44, .int .i64 (((l.getD i.toNat (0, (0, 0))).2).1)), (52, .int .i64 ((l.getD i.toNat (0, (0, 0))).1)), (57, .int .i64 (((l.getD i.toNat (0, (0, 0))).2).1))] [(0, vl), (3, .pointer (some ⟨b10, 0, none⟩)), (4, .int .i64 i), (59, .bool (((((decide ((l.getD i.toNat (0, (0, 0))).1 < 0)) || (decide (((l.getD i.toNat (0, (0, 0))).2).1 < 0))) || (decide ((1024 : Int) ≤ (l.getD i.toNat (0, (0, 0))).1))) || (decide ((1024 : Int) ≤ ((l.getD i.toNat (0, (0, 0))).2).1))) || (decide ((l.getD i.toNat (0, (0, 0))).1 = ((l.getD i.toNat (0, (0, 0))).2).1))))] ((True) ∧ (True) ∧ ((Try.prog.info? 113).isSome = true ∧ IdxOk vl i) ∧ (0 < Try.prog.cellsOf 3) ∧ (CellOk (On w19) (hdB vl) (hdO vl + i.toNat * 3 + 0) (.int .i64 ((l.getD i.toNat (0, (0, 0))).1))) ∧ (True) ∧ (True) ∧ ((decide ((l.getD i.toNat (0, (0, 0))).1 < 0)) = false → True) ∧ ((decide ((l.getD i.toNat (0, (0, 0))).1 < 0)) = false → True) ∧ ((decide ((l.getD i.toNat (0, (0, 0))).1 < 0)) = false → (Try.prog.info? 113).isSome = true ∧ IdxOk vl i) ∧ ((decide ((l.getD i.toNat (0, (0, 0))).1 < 0)) = false → 0 < Try.prog.cellsOf 3) ∧ ((decide ((l.getD i.toNat (0, (0, 0))).1 < 0)) = false → CellOk (On w19) (hdB vl) (hdO vl + i.toNat * 3 + 1) (.int .i64 (((l.getD i.toNat (0, (0, 0))).2).1))) ∧ ((decide ((l.getD i.toNat (0, (0, 0))).1 < 0)) = false → True) ∧ (True) ∧ (True) ∧ (((decide ((l.getD i.toNat (0, (0, 0))).1 < 0)) || (decide (((l.getD i.toNat (0, (0, 0))).2).1 < 0))) = false → True) ∧ (((decide ((l.getD i.toNat (0, (0, 0))).1 < 0)) || (decide (((l.getD i.toNat (0, (0, 0))).2).1 < 0))) = false → True) ∧ (((decide ((l.getD i.toNat (0, (0, 0))).1 < 0)) || (decide (((l.getD i.toNat (0, (0, 0))).2).1 < 0))) = false → (Try.prog.info? 113).isSome = true ∧ IdxOk vl i) ∧ (((decide ((l.getD i.toNat (0, (0, 0))).1 < 0)) || (decide (((l.getD i.toNat (0, (0, 0))).2).1 < 0))) = false → 0 < Try.prog.cellsOf 3) ∧ (((decide ((l.getD i.toNat (0, (0, 0))).1 < 0)) || (decide (((l.getD i.toNat (0, (0, 0))).2).1 < 0))) = false → CellOk (On w19) (hdB vl) (hdO vl + i.toNat * 3 + 0) (.int .i64 ((l.getD i.toNat (0, (0, 0))).1))) ∧ (((decide ((l.getD i.toNat (0, (0, 0))).1 < 0)) || (decide (((l.getD i.toNat (0, (0, 0))).2).1 < 0))) = false → True) ∧ (True) ∧ (True) ∧ ((((decide ((l.getD i.toNat (0, (0, 0))).1 < 0)) || (decide (((l.getD i.toNat (0, (0, 0))).2).1 < 0))) || (decide ((1024 : Int) ≤ (l.getD i.toNat (0, (0, 0))).1))) = false → True) ∧ ((((decide ((l.getD i.toNat (0, (0, 0))).1 < 0)) || (decide (((l.getD i.toNat (0, (0, 0))).2).1 < 0))) || (decide ((1024 : Int) ≤ (l.getD i.toNat (0, (0, 0))).1))) = false → True) ∧ ((((decide ((l.getD i.toNat (0, (0, 0))).1 < 0)) || (decide (((l.getD i.toNat (0, (0, 0))).2).1 < 0))) || (decide ((1024 : Int) ≤ (l.getD i.toNat (0, (0, 0))).1))) = false → (Try.prog.info? 113).isSome = true ∧ IdxOk vl i) ∧ ((((decide ((l.getD i.toNat (0, (0, 0))).1 < 0)) || (decide (((l.getD i.toNat (0, (0, 0))).2).1 < 0))) || (decide ((1024 : Int) ≤ (l.getD i.toNat (0, (0, 0))).1))) = false → 0 < Try.prog.cellsOf 3) ∧ ((((decide ((l.getD i.toNat (0, (0, 0))).1 < 0)) || (decide (((l.getD i.toNat (0, (0, 0))).2).1 < 0))) || (decide ((1024 : Int) ≤ (l.getD i.toNat (0, (0, 0))).1))) = false → CellOk (On w19) (hdB vl) (hdO vl + i.toNat * 3 + 1) (.int .i64 (((l.getD i.toNat (0, (0, 0))).2).1))) ∧ ((((decide ((l.getD i.toNat (0, (0, 0))).1 < 0)) || (decide (((l.getD i.toNat (0, (0, 0))).2).1 < 0))) || (decide ((1024 : Int) ≤ (l.getD i.toNat (0, (0, 0))).1))) = false → True) ∧ (True) ∧ (True) ∧ (((((decide ((l.getD i.toNat (0, (0, 0))).1 < 0)) || (decide (((l.getD i.toNat (0, (0, 0))).2).1 < 0))) || (decide ((1024 : Int) ≤ (l.getD i.toNat (0, (0, 0))).1))) || (decide ((1024 : Int) ≤ ((l.getD i.toNat (0, (0, 0))).2).1))) = false → True) ∧ (((((decide ((l.getD i.toNat (0, (0, 0))).1 < 0)) || (decide (((l.getD i.toNat (0, (0, 0))).2).1 < 0))) || (decide ((1024 : Int) ≤ (l.getD i.toNat (0, (0, 0))).1))) || (decide ((1024 : Int) ≤ ((l.getD i.toNat (0, (0, 0))).2).1))) = false → True) ∧ (((((decide ((l.getD i.toNat (0, (0, 0))).1 < 0)) || (decide (((l.getD i.toNat (0, (0, 0))).2).1 < 0))) || (decide ((1024 : Int) ≤ (l.getD i.toNat (0, (0, 0))).1))) || (decide ((1024 : Int) ≤ ((l.getD i.toNat (0, (0, 0))).2).1))) = false → (Try.prog.info? 113).isSome = true ∧ IdxOk vl i) ∧ (((((decide ((l.getD i.toNat (0, (0, 0))).1 < 0)) || (decide (((l.getD i.toNat (0, (0, 0))).2).1 < 0))) || (decide ((1024 : Int) ≤ (l.getD i.toNat (0, (0, 0))).1))) || (decide ((1024 : Int) ≤ ((l.getD i.toNat (0, (0, 0))).2).1))) = false → 0 < Try.prog.cellsOf 3) ∧ (((((decide ((l.getD i.toNat (0, (0, 0))).1 < 0)) || (decide (((l.getD i.toNat (0, (0, 0))).2).1 < 0))) || (decide ((1024 : Int) ≤ (l.getD i.toNat (0, (0, 0))).1))) || (decide ((1024 : Int) ≤ ((l.getD i.toNat (0, (0, 0))).2).1))) = false → CellOk (On w19) (hdB vl) (hdO vl + i.toNat * 3 + 0) (.int .i64 ((l.getD i.toNat (0, (0, 0))).1))) ∧ (((((decide ((l.getD i.toNat (0, (0, 0))).1 < 0)) || (decide (((l.getD i.toNat (0, (0, 0))).2).1 < 0))) || (decide ((1024 : Int) ≤ (l.getD i.toNat (0, (0, 0))).1))) || (decide ((1024 : Int) ≤ ((l.getD i.toNat (0, (0, 0))).2).1))) = false → True) ∧ (((((decide ((l.getD i.toNat (0, (0, 0))).1 < 0)) || (decide (((l.getD i.toNat (0, (0, 0))).2).1 < 0))) || (decide ((1024 : Int) ≤ (l.getD i.toNat (0, (0, 0))).1))) || (decide ((1024 : Int) ≤ ((l.getD i.toNat (0, (0, 0))).2).1))) = false → True) ∧ (((((decide ((l.getD i.toNat (0, (0, 0))).1 < 0)) || (decide (((l.getD i.toNat (0, (0, 0))).2).1 < 0))) || (decide ((1024 : Int) ≤ (l.getD i.toNat (0, (0, 0))).1))) || (decide ((1024 : Int) ≤ ((l.getD i.toNat (0, (0, 0))).2).1))) = false → (Try.prog.info? 113).isSome = true ∧ IdxOk vl i) ∧ (((((decide ((l.getD i.toNat (0, (0, 0))).1 < 0)) || (decide (((l.getD i.toNat (0, (0, 0))).2).1 < 0))) || (decide ((1024 : Int) ≤ (l.getD i.toNat (0, (0, 0))).1))) || (decide ((1024 : Int) ≤ ((l.getD i.toNat (0, (0, 0))).2).1))) = false → 0 < Try.prog.cellsOf 3) ∧ (((((decide ((l.getD i.toNat (0, (0, 0))).1 < 0)) || (decide (((l.getD i.toNat (0, (0, 0))).2).1 < 0))) || (decide ((1024 : Int) ≤ (l.getD i.toNat (0, (0, 0))).1))) || (decide ((1024 : Int) ≤ ((l.getD i.toNat (0, (0, 0))).2).1))) = false → CellOk (On w19) (hdB vl) (hdO vl + i.toNat * 3 + 1) (.int .i64 (((l.getD i.toNat (0, (0, 0))).2).1))) ∧ (((((decide ((l.getD i.toNat (0, (0, 0))).1 < 0)) || (decide (((l.getD i.toNat (0, (0, 0))).2).1 < 0))) || (decide ((1024 : Int) ≤ (l.getD i.toNat (0, (0, 0))).1))) || (decide ((1024 : Int) ≤ ((l.getD i.toNat (0, (0, 0))).2).1))) = false → True) ∧ (True) ∧ True) hA H ⟨trivial, trivial, ⟨by kernel_rfl, by exact idx_ok (H.arg hL) (by omega) (by omega)⟩, by decide +kernel, by exact cell_flat (i := i) (H.arg hL) (by omega) (by omega) (0, (0, 0)) 0, trivial, trivial, fun _ => trivial, fun _ => trivial, fun hg0 => by replace hg0 := of_decide_eq_false hg0; exact ⟨by kernel_rfl, by exact idx_ok (H.arg hL) (by omega) (by omega)⟩, fun _ => by decide +kernel, fun hg0 => by replace hg0 := of_decide_eq_false hg0; exact by exact cell_flat (i := i) (H.arg hL) (by omega) (by omega) (0, (0, 0)) 1, fun _ => trivial, trivial, trivial, fun _ => trivial, fun _ => trivial, fun hg0 => by replace hg0 := (⟨of_decide_eq_false ((oF hg0).1), of_decide_eq_false ((oF hg0).2)⟩ : _ ∧ _); exact ⟨by kernel_rfl, by exact idx_ok (H.arg hL) (by omega) (by omega)⟩, fun _ => by decide +kernel, fun hg0 => by replace hg0 := (⟨of_decide_eq_false ((oF hg0).1), of_decide_eq_false ((oF hg0).2)⟩ : _ ∧ _); exact by exact cell_flat (i := i) (H.arg hL) (by omega) (by omega) (0, (0, 0)) 0, fun _ => trivial, trivial, trivial, fun _ => trivial, fun _ => trivial, fun hg0 => by replace hg0 := (⟨(⟨of_decide_eq_false ((oF ((oF hg0).1)).1), of_decide_eq_false ((oF ((oF hg0).1)).2)⟩ : _ ∧ _), of_decide_eq_false ((oF hg0).2)⟩ : _ ∧ _); exact ⟨by kernel_rfl, by exact idx_ok (H.arg hL) (by omega) (by omega)⟩, fun _ => by decide +kernel, fun hg0 => by replace hg0 := (⟨(⟨of_decide_eq_false ((oF ((oF hg0).1)).1), of_decide_eq_false ((oF ((oF hg0).1)).2)⟩ : _ ∧ _), of_decide_eq_false ((oF hg0).2)⟩ : _ ∧ _); exact by exact cell_flat (i := i) (H.arg hL) (by omega) (by omega) (0, (0, 0)) 1, fun _ => trivial, trivial, trivial, fun _ => trivial, fun _ => trivial, fun hg0 => by replace hg0 := (⟨(⟨(⟨of_decide_eq_false ((oF ((oF ((oF hg0).1)).1)).1), of_decide_eq_false ((oF ((oF ((oF hg0).1)).1)).2)⟩ : _ ∧ _), of_decide_eq_false ((oF ((oF hg0).1)).2)⟩ : _ ∧ _), of_decide_eq_false ((oF hg0).2)⟩ : _ ∧ _); exact ⟨by kernel_rfl, by exact idx_ok (H.arg hL) (by omega) (by omega)⟩, fun _ => by decide +kernel, fun hg0 => by replace hg0 := (⟨(⟨(⟨of_decide_eq_false ((oF ((oF ((oF hg0).1)).1)).1), of_decide_eq_false ((oF ((oF ((oF hg0).1)).1)).2)⟩ : _ ∧ _), of_decide_eq_false ((oF ((oF hg0).1)).2)⟩ : _ ∧ _), of_decide_eq_false ((oF hg0).2)⟩ : _ ∧ _); exact by exact cell_flat (i := i) (H.arg hL) (by omega) (by omega) (0, (0, 0)) 0, fun _ => trivial, fun _ => trivial, fun hg0 => by replace hg0 := (⟨(⟨(⟨of_decide_eq_false ((oF ((oF ((oF hg0).1)).1)).1), of_decide_eq_false ((oF ((oF ((oF hg0).1)).1)).2)⟩ : _ ∧ _), of_decide_eq_false ((oF ((oF hg0).1)).2)⟩ : _ ∧ _), of_decide_eq_false ((oF hg0).2)⟩ : _ ∧ _); exact ⟨by kernel_rfl, by exact idx_ok (H.arg hL) (by omega) (by omega)⟩, fun _ => by decide +kernel, fun hg0 => by replace hg0 := (⟨(⟨(⟨of_decide_eq_false ((oF ((oF ((oF hg0).1)).1)).1), of_decide_eq_false ((oF ((oF ((oF hg0).1)).1)).2)⟩ : _ ∧ _), of_decide_eq_false ((oF ((oF hg0).1)).2)⟩ : _ ∧ _), of_decide_eq_false ((oF hg0).2)⟩ : _ ∧ _); exact by exact cell_flat (i := i) (H.arg hL) (by omega) (by omega) (0, (0, 0)) 1, fun _ => trivial, trivial, trivial⟩ fun a w24 hA H hG => ?_
      refine hK23 _ _ ?_
      refine go_cond hA (.tmp 59) (((((decide ((l.getD i.toNat (0, (0, 0))).1 < 0)) || (decide (((l.getD i.toNat (0, (0, 0))).2).1 < 0))) || (decide ((1024 : Int) ≤ (l.getD i.toNat (0, (0, 0))).1))) || (decide ((1024 : Int) ≤ ((l.getD i.toNat (0, (0, 0))).2).1))) || (decide ((l.getD i.toNat (0, (0, 0))).1 = ((l.getD i.toNat (0, (0, 0))).2).1))) (fun hb25 => ?_) (fun hb25 => ?_)
      · have hhb25 := (oT hb25).imp (fun h => (oT h).imp (fun h => (oT h).imp (fun h => (oT h).imp (fun h => of_decide_eq_true h) (fun h => of_decide_eq_true h)) (fun h => of_decide_eq_true h)) (fun h => of_decide_eq_true h)) (fun h => of_decide_eq_true h)
        refine go_seq fun K26 hK26 => ?_
        refine q_reg [] [(2, .bool false)] ((True) ∧ True) hA H ⟨trivial, trivial⟩ fun a w27 hA H hG => ?_
        refine hK26 _ _ ?_
        refine go_ret_ ?_
        refine ret_one 2 (.bool false) hA ?_
        exact ans_b' (Eq.symm (by first | exact rk_big (by omega) | exact rk_not (by omega) (okLk_twice k0 (by omega) hhb25) | exact rk_not (i := i.toNat) (by omega) (okLk_no hhb25) | exact rk_err (by rw [← hn, ← he]; exact hhb25))) H.below
      · have hhb25 := (⟨(⟨(⟨(⟨of_decide_eq_false ((oF ((oF ((oF ((oF hb25).1)).1)).1)).1), of_decide_eq_false ((oF ((oF ((oF ((oF hb25).1)).1)).1)).2)⟩ : _ ∧ _), of_decide_eq_false ((oF ((oF ((oF hb25).1)).1)).2)⟩ : _ ∧ _), of_decide_eq_false ((oF ((oF hb25).1)).2)⟩ : _ ∧ _), of_decide_eq_false ((oF hb25).2)⟩ : _ ∧ _)
        refine go_skip ?_
        refine hK22 _ _ ?_
        refine go_seq fun K28 hK28 => ?_
        refine go_seq fun K29 hK29 => ?_
        refine q_reg [] [(0, vl), (3, .pointer (some ⟨b10, 0, none⟩)), (4, .int .i64 i), (5, .int .i64 0)] ((True) ∧ True) hA H ⟨trivial, trivial⟩ fun a w30 hA H hG => ?_
        refine hK29 _ _ ?_
        refine go_block 2 ?_
        have hno := hhb25
        refine go_loop_ (Int) (fun x_ a W => (fun (k : Int) => EnvOk 131 a (keepEnv [(0, vl), (3, .pointer (some ⟨b10, 0, none⟩)), (4, .int .i64 i), (5, .int .i64 k)]) ∧ (∃ S, Fr (org w) W S [.row 99 ve e, .box b10 24 [.int .i64 n, ve]]) ∧ 0 ≤ k ∧ k ≤ i ∧ ∀ q : Nat, (q : Int) < k → lkI l (q : Int) ≠ lkI l i) x_) (fun x_ => (fun (k : Int) => (i - k).toNat) x_) (0) ?_ (fun k a w32 hI => ?_)
        · (try dsimp only); exact ⟨env_sub _ hA, ⟨_, H⟩, by omega, by omega, fun q hq => by omega⟩
        obtain ⟨hA, ⟨S, H⟩, k0, k0b, hk⟩ := hI
        try dsimp only at k0 k0b hk
        refine go_seq fun K33 hK33 => ?_
        refine go_seq fun K34 hK34 => ?_
        refine q_reg [] [(0, vl), (3, .pointer (some ⟨b10, 0, none⟩)), (4, .int .i64 i), (5, .int .i64 k), (62, .bool (decide (k < i)))] ((True) ∧ (True) ∧ (True) ∧ True) hA H ⟨trivial, trivial, trivial, trivial⟩ fun a w35 hA H hG => ?_
        refine hK34 _ _ ?_
        refine go_cond hA (.tmp 62) (decide (k < i)) (fun hb36 => ?_) (fun hb36 => ?_)
        · have hhb36 := of_decide_eq_true hb36
          refine go_skip ?_
          refine hK33 _ _ ?_
          refine go_seq fun K37 hK37 => ?_
          refine go_block 3 ?_
          refine go_seq fun K38 hK38 => ?_
          refine q_draw [(69, .int .i64 (((l.getD k.toNat (0, (0, 0))).2).2)), (74, .int .i64 (((l.getD i.toNat (0, (0, 0))).2).2))] [(0, vl), (3, .pointer (some ⟨b10, 0, none⟩)), (4, .int .i64 i), (5, .int .i64 k), (75, .bool (decide (((l.getD k.toNat (0, (0, 0))).2).2 = ((l.getD i.toNat (0, (0, 0))).2).2)))] ((True) ∧ (True) ∧ ((Try.prog.info? 113).isSome = true ∧ IdxOk vl k) ∧ (0 < Try.prog.cellsOf 3) ∧ (CellOk (On w35) (hdB vl) (hdO vl + k.toNat * 3 + 2) (.int .i64 (((l.getD k.toNat (0, (0, 0))).2).2))) ∧ (True) ∧ (True) ∧ ((Try.prog.info? 113).isSome = true ∧ IdxOk vl i) ∧ (0 < Try.prog.cellsOf 3) ∧ (CellOk (On w35) (hdB vl) (hdO vl + i.toNat * 3 + 2) (.int .i64 (((l.getD i.toNat (0, (0, 0))).2).2))) ∧ (True) ∧ True) hA H ⟨trivial, trivial, ⟨by kernel_rfl, by exact idx_ok (H.arg hL) (by omega) (by omega)⟩, by decide +kernel, by exact cell_flat (i := k) (H.arg hL) (by omega) (by omega) (0, (0, 0)) 2, trivial, trivial, ⟨by kernel_rfl, by exact idx_ok (H.arg hL) (by omega) (by omega)⟩, by decide +kernel, by exact cell_flat (i := i) (H.arg hL) (by omega) (by omega) (0, (0, 0)) 2, trivial, trivial⟩ fun a w39 hA H hG => ?_
          refine hK38 _ _ ?_
          refine go_cond hA (.tmp 75) (decide (((l.getD k.toNat (0, (0, 0))).2).2 = ((l.getD i.toNat (0, (0, 0))).2).2)) (fun hb40 => ?_) (fun hb40 => ?_)
          · have hhb40 := of_decide_eq_true hb40
            refine go_seq fun K41 hK41 => ?_
            refine q_reg [] [(2, .bool false)] ((True) ∧ True) hA H ⟨trivial, trivial⟩ fun a w42 hA H hG => ?_
            refine hK41 _ _ ?_
            refine go_ret_ ?_
            refine ret_one 2 (.bool false) hA ?_
            exact ans_b' (Eq.symm (by first | exact rk_big (by omega) | exact rk_not (by omega) (okLk_twice k0 (by omega) hhb40) | exact rk_not (i := i.toNat) (by omega) (okLk_no hhb40) | exact rk_err (by rw [← hn, ← he]; exact hhb40))) H.below
          · have hhb40 := of_decide_eq_false hb40
            refine go_skip ?_
            refine hK37 _ _ ?_
            refine q_reg [] [(0, vl), (3, .pointer (some ⟨b10, 0, none⟩)), (4, .int .i64 i), (5, .int .i64 (k + 1))] ((True) ∧ (InR .i64 (k + 1)) ∧ (True) ∧ True) hA H ⟨trivial, ⟨by omega, by omega⟩, trivial, trivial⟩ fun a w43 hA H hG => ?_
            refine ⟨(k + 1), ⟨env_sub _ hA, ⟨_, H⟩, ?_⟩, ?_⟩
            · (try dsimp only); exact ⟨by omega, by omega, fun q hq => if z : (q : Int) = k then (by rw [z]; exact hhb40) else hk q (by omega)⟩
            · (try dsimp only); omega
        · have hhb36 := of_decide_eq_false hb36
          refine go_exit 2 ?_
          refine hK28 _ _ ?_
          refine go_seq fun K44 hK44 => ?_
          have hlk : okLk l i.toNat := okLk_mk h0 (fun q hq => hk q (by omega)) hno.1.1.1.1 hno.1.1.1.2 hno.1.1.2 hno.1.2 hno.2
          have hl9 := hlk.2
          have H0 := H
          have hM0 := H0.keeps ve.ownBlock (.inr ⟨_, List.mem_of_getElem? (i := 0) rfl, rfl⟩)
          refine region_mix (But w35 ve.ownBlock) [0, 1, 2, 3, 4, 5, 6, 7, 8, 9, 10, 11, 12, 13, 14] 17 ?_
          replace H := H.drawn; have hD := But.drew w35 ve.ownBlock
          generalize ({ w35 with drawn := w35.drawn + 1 } : World) = w45 at H hD ⊢
          refine m_take (n := 4) [0, 1, 2, 3, 4, 5, 6, 7, 8, 9, 10, 11, 12] #[true, true, true, true, true, true, true, true, true, true, true, true, true, false, false, false, false] [(77, ve), (82, .int .i64 ((l.getD i.toNat (0, (0, 0))).1)), (87, .int .i64 (((l.getD i.toNat (0, (0, 0))).2).1)), (88, .agg #[.int .i64 ((l.getD i.toNat (0, (0, 0))).1), .int .i64 (((l.getD i.toNat (0, (0, 0))).2).1)])] [(0, vl), (3, .pointer (some ⟨b10, 0, none⟩)), (4, .int .i64 i), (77, ve), (88, .agg #[.int .i64 ((l.getD i.toNat (0, (0, 0))).1), .int .i64 (((l.getD i.toNat (0, (0, 0))).2).1)])] ((0 < Try.prog.cellsOf 22) ∧ (CellOk (But w35 ve.ownBlock) b10 (0 + 1) (ve)) ∧ (True) ∧ (True) ∧ ((Try.prog.info? 113).isSome = true ∧ IdxOk vl i) ∧ (0 < Try.prog.cellsOf 3) ∧ (CellOk (But w35 ve.ownBlock) (hdB vl) (hdO vl + i.toNat * 3 + 0) (.int .i64 ((l.getD i.toNat (0, (0, 0))).1))) ∧ (True) ∧ (True) ∧ ((Try.prog.info? 113).isSome = true ∧ IdxOk vl i) ∧ (0 < Try.prog.cellsOf 3) ∧ (CellOk (But w35 ve.ownBlock) (hdB vl) (hdO vl + i.toNat * 3 + 1) (.int .i64 (((l.getD i.toNat (0, (0, 0))).2).1))) ∧ (∀ w, (Instr.build 99 #[(0, .int .i64 ((l.getD i.toNat (0, (0, 0))).1)), (1, .int .i64 (((l.getD i.toNat (0, (0, 0))).2).1))]).run Try.prog w = .ok (.agg #[.int .i64 ((l.getD i.toNat (0, (0, 0))).1), .int .i64 (((l.getD i.toNat (0, (0, 0))).2).1)]) w) ∧ True) hA hD ⟨by decide +kernel, by exact box_cellC (box_atC H0 ve.ownBlock 1 rfl (H0.apart 1 0 (by decide) rfl rfl rfl)) 1, trivial, trivial, ⟨by kernel_rfl, by exact idx_ok (H0.argT hL) (by omega) (by omega)⟩, by decide +kernel, by exact cell_flatC hM0 (i := i) (H0.argT hL) (by omega) (by omega) (0, (0, 0)) 0, trivial, trivial, ⟨by kernel_rfl, by exact idx_ok (H0.argT hL) (by omega) (by omega)⟩, by decide +kernel, by exact cell_flatC hM0 (i := i) (H0.argT hL) (by omega) (by omega) (0, (0, 0)) 1, fun w => by kernel_rfl, trivial⟩ fun a hA => ?_
          refine m_one 13 ?_; refine q_lit 13 89 22 1 #[(0, .tmp 88)] 99 [(0, .agg #[.int .i64 ((l.getD i.toNat (0, (0, 0))).1), .int .i64 (((l.getD i.toNat (0, (0, 0))).2).1)])] [.int .i64 ((l.getD i.toNat (0, (0, 0))).1), .int .i64 (((l.getD i.toNat (0, (0, 0))).2).1)] [(0, vl), (3, .pointer (some ⟨b10, 0, none⟩)), (4, .int .i64 i), (77, ve)] hA H fun b46 a w47 H hA hG hge_b46 => ?_
          replace hge_b46 := Nat.le_trans hD.1 hge_b46
          replace hD := hD.below hG
          refine ⟨fun _ => hD, ?_⟩
          refine m_one 14 ?_; refine q_push 14 90 (.tmp 77) (.tmp 89) 1 0 b46 1 1 ve e [((l.getD i.toNat (0, (0, 0))).1, ((l.getD i.toNat (0, (0, 0))).2).1)] [.int .i64 ((l.getD i.toNat (0, (0, 0))).1), .int .i64 (((l.getD i.toNat (0, (0, 0))).2).1)] [(0, vl), (3, .pointer (some ⟨b10, 0, none⟩)), (4, .int .i64 i)] hA H Try.E22 rfl rfl (by exact (RowRd.single (α := Int × Int) ⟨[_], _, rfl, rfl, rfl⟩)) rfl (by simp only [List.length_cons, List.length_nil, List.length_append]; omega) (by decide) fun v48 a w49 H hA hG => ?_
          replace H : Fr _ _ _ [.row 99 v48 (e ++ [((l.getD i.toNat (0, (0, 0))).1, ((l.getD i.toNat (0, (0, 0))).2).1)]), .box b10 24 [.int .i64 n, ve]] := H.drop 0
          replace hD := hD.grown hG (fun b hb => .inl hb.symm)
          refine ⟨fun _ => hD, ?_⟩
          refine m_one 15 ?_; refine q_one 15 [] [(0, vl), (3, .pointer (some ⟨b10, 0, none⟩)), (4, .int .i64 i), (90, v48), (91, .pointer (some ⟨b10, 0 + 1, none⟩))] ((0 < Try.prog.cellsOf 22) ∧ True) hA H ⟨by decide +kernel, trivial⟩ fun a w50 H hA hG => ?_
          refine ⟨fun h => absurd h (by decide), ?_⟩
          refine m_one 16 ?_; refine q_store 16 22 (.tmp 91) (.tmp 90) 1 b10 (0 + 1) 24 [.int .i64 n, ve] [v48] [.int .i64 n, v48] v48 [(0, vl), (3, .pointer (some ⟨b10, 0, none⟩)), (4, .int .i64 i)] hA H rfl (one_cells (rd_one (H.out 0 rfl))) (Nat.le_of_ble_eq_true (by kernel_rfl)) rfl (fun v hv => by simp only [List.mem_cons, List.not_mem_nil, or_false] at hv; rcases hv with rfl; exact (rd_one (H.out 0 rfl))) fun a w51 H hA hG => ?_
          replace H : Fr _ _ _ [.row 99 v48 (e ++ [((l.getD i.toNat (0, (0, 0))).1, ((l.getD i.toNat (0, (0, 0))).2).1)]), .box b10 24 [.int .i64 n, v48]] := H
          refine ⟨fun h => absurd h (by decide), ?_⟩
          refine m_end ?_
          refine hK44 _ _ ?_
          refine go_seq fun K52 hK52 => ?_
          have H0 := H
          have hM0 := H0.keeps none (.inl rfl)
          refine region_mix (But w51 none) [0, 1, 2, 3, 4, 5, 6, 7, 8] 11 ?_
          replace H := H.drawn; have hD := But.drew w51 none
          generalize ({ w51 with drawn := w51.drawn + 1 } : World) = w53 at H hD ⊢
          refine m_take (n := 2) [0, 1, 2, 3, 4, 5, 6, 7, 8] #[true, true, true, true, true, true, true, true, true, false, false] [(93, .int .i64 n), (98, .int .i64 ((l.getD i.toNat (0, (0, 0))).1)), (100, .int .i64 (max n (((l.getD i.toNat (0, (0, 0))).1) + 1)))] [(0, vl), (3, .pointer (some ⟨b10, 0, none⟩)), (4, .int .i64 i), (100, .int .i64 (max n (((l.getD i.toNat (0, (0, 0))).1) + 1)))] ((0 < Try.prog.cellsOf 3) ∧ (CellOk (But w51 none) b10 (0 + 0) (.int .i64 n)) ∧ (True) ∧ (True) ∧ ((Try.prog.info? 113).isSome = true ∧ IdxOk vl i) ∧ (0 < Try.prog.cellsOf 3) ∧ (CellOk (But w51 none) (hdB vl) (hdO vl + i.toNat * 3 + 0) (.int .i64 ((l.getD i.toNat (0, (0, 0))).1))) ∧ (InR .i64 (((l.getD i.toNat (0, (0, 0))).1) + 1)) ∧ (∀ ty w, (Builtin.max_ #[3, 3] ty [.int .i64 n, .int .i64 (((l.getD i.toNat (0, (0, 0))).1) + 1)].toArray).run Try.prog w = .ok (.int .i64 (max n (((l.getD i.toNat (0, (0, 0))).1) + 1))) w) ∧ True) hA hD ⟨by decide +kernel, by exact box_cellC (box_atC H0 none 1 rfl (fun e => by cases e)) 0, trivial, trivial, ⟨by kernel_rfl, by exact idx_ok (H0.argT hL) (by omega) (by omega)⟩, by decide +kernel, by exact cell_flatC hM0 (i := i) (H0.argT hL) (by omega) (by omega) (0, (0, 0)) 0, ⟨by omega, by omega⟩, fun ty w => max_ok ty w, trivial⟩ fun a hA => ?_
          refine m_one 9 ?_; refine q_one 9 [] [(0, vl), (3, .pointer (some ⟨b10, 0, none⟩)), (4, .int .i64 i), (100, .int .i64 (max n (((l.getD i.toNat (0, (0, 0))).1) + 1))), (101, .pointer (some ⟨b10, 0 + 0, none⟩))] ((0 < Try.prog.cellsOf 3) ∧ True) hA H ⟨by decide +kernel, trivial⟩ fun a w54 H hA hG => ?_
          refine ⟨fun h => absurd h (by decide), ?_⟩
          refine m_one 10 ?_; refine q_store 10 3 (.tmp 101) (.tmp 100) 1 b10 (0 + 0) 24 [.int .i64 n, v48] [.int .i64 (max n (((l.getD i.toNat (0, (0, 0))).1) + 1))] [.int .i64 (max n (((l.getD i.toNat (0, (0, 0))).1) + 1)), v48] (.int .i64 (max n (((l.getD i.toNat (0, (0, 0))).1) + 1))) [(0, vl), (3, .pointer (some ⟨b10, 0, none⟩)), (4, .int .i64 i)] hA H rfl rfl (Nat.le_of_ble_eq_true (by kernel_rfl)) rfl (fun v hv => by simp only [List.mem_cons, List.not_mem_nil, or_false] at hv; rcases hv with rfl; exact rfl) fun a w55 H hA hG => ?_
          replace H : Fr _ _ _ [.row 99 v48 (e ++ [((l.getD i.toNat (0, (0, 0))).1, ((l.getD i.toNat (0, (0, 0))).2).1)]), .box b10 24 [.int .i64 (max n (((l.getD i.toNat (0, (0, 0))).1) + 1)), v48]] := H
          refine ⟨fun h => absurd h (by decide), ?_⟩
          refine m_end ?_
          refine hK52 _ _ ?_
          have H0 := H
          have hM0 := H0.keeps none (.inl rfl)
          refine region_mix (But w55 none) [0, 1, 2, 3, 4, 5, 6, 7, 8] 11 ?_
          replace H := H.drawn; have hD := But.drew w55 none
          generalize ({ w55 with drawn := w55.drawn + 1 } : World) = w56 at H hD ⊢
          refine m_take (n := 2) [0, 1, 2, 3, 4, 5, 6, 7, 8] #[true, true, true, true, true, true, true, true, true, false, false] [(103, .int .i64 (max n (((l.getD i.toNat (0, (0, 0))).1) + 1))), (108, .int .i64 (((l.getD i.toNat (0, (0, 0))).2).1)), (110, .int .i64 (max (max n (((l.getD i.toNat (0, (0, 0))).1) + 1)) ((((l.getD i.toNat (0, (0, 0))).2).1) + 1)))] [(0, vl), (3, .pointer (some ⟨b10, 0, none⟩)), (4, .int .i64 i), (110, .int .i64 (max (max n (((l.getD i.toNat (0, (0, 0))).1) + 1)) ((((l.getD i.toNat (0, (0, 0))).2).1) + 1)))] ((0 < Try.prog.cellsOf 3) ∧ (CellOk (But w55 none) b10 (0 + 0) (.int .i64 (max n (((l.getD i.toNat (0, (0, 0))).1) + 1)))) ∧ (True) ∧ (True) ∧ ((Try.prog.info? 113).isSome = true ∧ IdxOk vl i) ∧ (0 < Try.prog.cellsOf 3) ∧ (CellOk (But w55 none) (hdB vl) (hdO vl + i.toNat * 3 + 1) (.int .i64 (((l.getD i.toNat (0, (0, 0))).2).1))) ∧ (InR .i64 ((((l.getD i.toNat (0, (0, 0))).2).1) + 1)) ∧ (∀ ty w, (Builtin.max_ #[3, 3] ty [.int .i64 (max n (((l.getD i.toNat (0, (0, 0))).1) + 1)), .int .i64 ((((l.getD i.toNat (0, (0, 0))).2).1) + 1)].toArray).run Try.prog w = .ok (.int .i64 (max (max n (((l.getD i.toNat (0, (0, 0))).1) + 1)) ((((l.getD i.toNat (0, (0, 0))).2).1) + 1))) w) ∧ True) hA hD ⟨by decide +kernel, by exact box_cellC (box_atC H0 none 1 rfl (fun e => by cases e)) 0, trivial, trivial, ⟨by kernel_rfl, by exact idx_ok (H0.argT hL) (by omega) (by omega)⟩, by decide +kernel, by exact cell_flatC hM0 (i := i) (H0.argT hL) (by omega) (by omega) (0, (0, 0)) 1, ⟨by omega, by omega⟩, fun ty w => max_ok ty w, trivial⟩ fun a hA => ?_
          refine m_one 9 ?_; refine q_one 9 [] [(0, vl), (3, .pointer (some ⟨b10, 0, none⟩)), (4, .int .i64 i), (110, .int .i64 (max (max n (((l.getD i.toNat (0, (0, 0))).1) + 1)) ((((l.getD i.toNat (0, (0, 0))).2).1) + 1))), (111, .pointer (some ⟨b10, 0 + 0, none⟩))] ((0 < Try.prog.cellsOf 3) ∧ True) hA H ⟨by decide +kernel, trivial⟩ fun a w57 H hA hG => ?_
          refine ⟨fun h => absurd h (by decide), ?_⟩
          refine m_one 10 ?_; refine q_store 10 3 (.tmp 111) (.tmp 110) 1 b10 (0 + 0) 24 [.int .i64 (max n (((l.getD i.toNat (0, (0, 0))).1) + 1)), v48] [.int .i64 (max (max n (((l.getD i.toNat (0, (0, 0))).1) + 1)) ((((l.getD i.toNat (0, (0, 0))).2).1) + 1))] [.int .i64 (max (max n (((l.getD i.toNat (0, (0, 0))).1) + 1)) ((((l.getD i.toNat (0, (0, 0))).2).1) + 1)), v48] (.int .i64 (max (max n (((l.getD i.toNat (0, (0, 0))).1) + 1)) ((((l.getD i.toNat (0, (0, 0))).2).1) + 1))) [(0, vl), (3, .pointer (some ⟨b10, 0, none⟩)), (4, .int .i64 i)] hA H rfl rfl (Nat.le_of_ble_eq_true (by kernel_rfl)) rfl (fun v hv => by simp only [List.mem_cons, List.not_mem_nil, or_false] at hv; rcases hv with rfl; exact rfl) fun a w58 H hA hG => ?_
          replace H : Fr _ _ _ [.row 99 v48 (e ++ [((l.getD i.toNat (0, (0, 0))).1, ((l.getD i.toNat (0, (0, 0))).2).1)]), .box b10 24 [.int .i64 (max (max n (((l.getD i.toNat (0, (0, 0))).1) + 1)) ((((l.getD i.toNat (0, (0, 0))).2).1) + 1)), v48]] := H
          refine ⟨fun h => absurd h (by decide), ?_⟩
          refine m_end ?_
          refine hK21 _ _ ?_
          refine q_reg [] [(0, vl), (3, .pointer (some ⟨b10, 0, none⟩)), (4, .int .i64 (i + 1))] ((True) ∧ (InR .i64 (i + 1)) ∧ (True) ∧ True) hA H ⟨trivial, ⟨by omega, by omega⟩, trivial, trivial⟩ fun a w59 hA H hG => ?_
          replace H := Fr.order [.row 99 v48 (e ++ [((l.getD i.toNat (0, (0, 0))).1, ((l.getD i.toNat (0, (0, 0))).2).1)]), .box b10 24 [.int .i64 (max (max n (((l.getD i.toNat (0, (0, 0))).1) + 1)) ((((l.getD i.toNat (0, (0, 0))).2).1) + 1)), v48]] [] H [0, 1] (by show List.Perm _ (List.range 2); decide)
          replace H : Fr _ _ _ [.row 99 v48 (e ++ [((l.getD i.toNat (0, (0, 0))).1, ((l.getD i.toNat (0, (0, 0))).2).1)]), .box b10 24 [.int .i64 (max (max n (((l.getD i.toNat (0, (0, 0))).1) + 1)) ((((l.getD i.toNat (0, (0, 0))).2).1) + 1)), v48]] := H
          refine ⟨(i + 1, max (max n (((l.getD i.toNat (0, (0, 0))).1) + 1)) ((((l.getD i.toNat (0, (0, 0))).2).1) + 1), v48, e ++ [((l.getD i.toNat (0, (0, 0))).1, ((l.getD i.toNat (0, (0, 0))).2).1)]), ⟨env_sub _ hA, ⟨_, H⟩, ?_⟩, ?_⟩
          · (try dsimp only); exact ⟨by omega, by omega, by (try simp only [List.length_append, List.length_cons, List.length_nil]); omega, fun j hj => if q : (j : Int) = i then (by rw [show j = i.toNat by omega]; exact hlk) else hok j (by omega), by rw [nK_snoc h0 (by omega), ← hn], by rw [eK_snoc h0 (by omega), ← he]⟩
          · (try dsimp only); omega
    · have hhb20 := of_decide_eq_false hb20
      refine go_exit 0 ?_
      refine hK12 _ _ ?_
      refine go_seq fun K60 hK60 => ?_
      refine go_seq fun K61 hK61 => ?_
      have hwh : okWh l := fun j hj => hok j (by omega)
      rw [List.take_of_length_le (by omega)] at hn he
      refine q_reg [(112, .agg #[.int .i64 n, ve]), (113, .int .i64 (rightE n e))] [(0, vl), (3, .pointer (some ⟨b10, 0, none⟩)), (114, .bool (!decide (rightE n e = 0)))] (((Try.prog.info? 24).isSome = true ∧ RowOk (On w19) b10 (0) (Try.prog.cellsOf 24) #[.int .i64 n, ve]) ∧ (Callable Try.prog 27 ∧ CallOk Try.prog (On w19) 27 [.agg #[.int .i64 n, ve]].toArray (.int .i64 (rightE n e))) ∧ (True) ∧ True) hA H ⟨⟨by kernel_rfl, by exact box_row H 1 rfl 0 2⟩, ⟨callable_of, callOk_of fun w hw => by exact rright_any n ve e w (by omega) (((H.on hw).out 0 rfl))⟩, trivial, trivial⟩ fun a w62 hA H hG => ?_
      refine hK61 _ _ ?_
      refine go_cond hA (.tmp 114) (!decide (rightE n e = 0)) (fun hb63 => ?_) (fun hb63 => ?_)
      · have hhb63 := of_decide_eq_false (nT hb63)
        refine go_seq fun K64 hK64 => ?_
        refine q_reg [] [(2, .bool false)] ((True) ∧ True) hA H ⟨trivial, trivial⟩ fun a w65 hA H hG => ?_
        refine hK64 _ _ ?_
        refine go_ret_ ?_
        refine ret_one 2 (.bool false) hA ?_
        exact ans_b' (Eq.symm (by first | exact rk_big (by omega) | exact rk_not (by omega) (okLk_twice k0 (by omega) hhb63) | exact rk_not (i := i.toNat) (by omega) (okLk_no hhb63) | exact rk_err (by rw [← hn, ← he]; exact hhb63))) H.below
      · have hhb63 := of_decide_eq_true (nF hb63)
        refine go_skip ?_
        refine hK60 _ _ ?_
        refine go_seq fun K66 hK66 => ?_
        have hr17 := hhb63
        refine q_reg [] [(0, vl), (3, .pointer (some ⟨b10, 0, none⟩)), (6, (.slice none 0 0))] ((True) ∧ True) hA H ⟨trivial, trivial⟩ fun a w67 hA H hG => ?_
        refine hK66 _ _ ?_
        refine go_seq fun K68 hK68 => ?_
        refine go_seq fun K69 hK69 => ?_
        refine q_reg [] [(0, vl), (3, .pointer (some ⟨b10, 0, none⟩)), (6, (.slice none 0 0)), (7, .int .i64 0)] ((True) ∧ True) hA H ⟨trivial, trivial⟩ fun a w70 hA H hG => ?_
        refine hK69 _ _ ?_
        refine go_block 4 ?_
        replace H := H.newRow (α := Int) 3
        refine go_loop_ (Int × Value × List Int) (fun x_ a W => (fun (t : Int) (va : Value) (al : List Int) => EnvOk 131 a (keepEnv [(0, vl), (3, .pointer (some ⟨b10, 0, none⟩)), (6, va), (7, .int .i64 t)]) ∧ (∃ S, Fr (org w) W S [.row 3 va al, .row 99 ve e, .box b10 24 [.int .i64 n, ve]]) ∧ 0 ≤ t ∧ t ≤ (l.length : Int) ∧ al = upto t) x_.1 x_.2.1 x_.2.2) (fun x_ => (fun (t : Int) (va : Value) (al : List Int) => ((l.length : Int) - t).toNat) x_.1 x_.2.1 x_.2.2) (0, .slice none 0 0, []) ?_ (fun x_ a w72 hI => ?_)
        · (try dsimp only); exact ⟨env_sub _ hA, ⟨_, H⟩, by omega, by omega, rfl⟩
        obtain ⟨t, va, al⟩ := x_
        obtain ⟨hA, ⟨S, H⟩, t0, t0b, hal⟩ := hI
        try dsimp only at t0 t0b hal
        replace H : Fr _ _ _ [.row 3 va al, .row 99 ve e, .box b10 24 [.int .i64 n, ve]] := H
        have hall : al.length = t.toNat := by rw [hal, upto_len]
        refine go_seq fun K73 hK73 => ?_
        refine go_seq fun K74 hK74 => ?_
        refine q_reg [(117, .int .i64 (l.length : Int))] [(0, vl), (3, .pointer (some ⟨b10, 0, none⟩)), (6, va), (7, .int .i64 t), (118, .bool (decide (t < (l.length : Int))))] ((True) ∧ (True) ∧ (LenOk vl (l.length : Int)) ∧ (True) ∧ True) hA H ⟨trivial, trivial, by exact len_ok (H.arg hL), trivial, trivial⟩ fun a w75 hA H hG => ?_
        refine hK74 _ _ ?_
        refine go_cond hA (.tmp 118) (decide (t < (l.length : Int))) (fun hb76 => ?_) (fun hb76 => ?_)
        · have hhb76 := of_decide_eq_true hb76
          refine go_skip ?_
          refine hK73 _ _ ?_
          refine go_seq fun K77 hK77 => ?_
          refine go_block 5 ?_
          refine region_list ?_
          refine q_list 0 2 [] [(0, vl), (3, .pointer (some ⟨b10, 0, none⟩)), (7, .int .i64 t), (121, va), (122, .int .i64 t)] ((True) ∧ (True) ∧ True) hA H ⟨trivial, trivial, trivial⟩ fun a w78 hA H hG => ?_
          refine list_at 2 ?_; refine q_lit 2 123 27 1 #[(0, .tmp 122)] 3 [(0, .int .i64 t)] [.int .i64 t] [(0, vl), (3, .pointer (some ⟨b10, 0, none⟩)), (7, .int .i64 t), (121, va)] hA H fun b79 a w80 H hA hG hge_b79 => ?_
          clear hge_b79
          refine list_at 3 ?_; refine q_push 3 124 (.tmp 121) (.tmp 123) 1 0 b79 1 1 va al [t] [.int .i64 t] [(0, vl), (3, .pointer (some ⟨b10, 0, none⟩)), (7, .int .i64 t)] hA H Try.E27 rfl rfl (by exact (RowRd.single (α := Int) rfl)) rfl (by simp only [List.length_cons, List.length_nil, List.length_append]; omega) (by decide) fun v81 a w82 H hA hG => ?_
          replace H : Fr _ _ _ [.row 3 v81 (al ++ [t]), .row 99 ve e, .box b10 24 [.int .i64 n, ve]] := H.drop 0
          refine q_list 4 1 [] [(0, vl), (3, .pointer (some ⟨b10, 0, none⟩)), (6, v81), (7, .int .i64 t)] ((True) ∧ True) hA H ⟨trivial, trivial⟩ fun a w83 hA H hG => ?_
          refine list_end ?_
          refine hK77 _ _ ?_
          refine q_reg [] [(0, vl), (3, .pointer (some ⟨b10, 0, none⟩)), (6, v81), (7, .int .i64 (t + 1))] ((True) ∧ (InR .i64 (t + 1)) ∧ (True) ∧ True) hA H ⟨trivial, ⟨by omega, by omega⟩, trivial, trivial⟩ fun a w84 hA H hG => ?_
          refine ⟨(t + 1, v81, al ++ [t]), ⟨env_sub _ hA, ⟨_, H⟩, ?_⟩, ?_⟩
          · (try dsimp only); exact ⟨by omega, by omega, by rw [hal, upto_succ t0]⟩
          · (try dsimp only); omega
        · have hhb76 := of_decide_eq_false hb76
          refine go_exit 4 ?_
          refine hK68 _ _ ?_
          refine go_seq fun K85 hK85 => ?_
          have hre : rightE (nK l) (eK l) = 0 := by rw [← hn, ← he]; exact hr17
          rw [show t = (l.length : Int) by omega] at hal
          have hpt : partE n e (vertsL l) al = 0 := by rw [hn, he, hal]; exact part_K hre
          have H0 := H
          have hM0 := H0.keeps none (.inl rfl)
          refine region_mix (But w75 none) [0, 1, 2, 3, 4, 5] 7 ?_
          replace H := H.drawn; have hD := But.drew w75 none
          generalize ({ w75 with drawn := w75.drawn + 1 } : World) = w86 at H hD ⊢
          refine m_take (n := 4) [0, 1, 3] #[true, true, false, true, false, false, false] [(125, .agg #[.int .i64 n, ve])] [(125, .agg #[.int .i64 n, ve]), (126, vl), (128, va)] (((Try.prog.info? 24).isSome = true ∧ RowOk (But w75 none) b10 (0) (Try.prog.cellsOf 24) #[.int .i64 n, ve]) ∧ (True) ∧ (True) ∧ True) hA hD ⟨⟨by kernel_rfl, by exact box_rowC (box_atC H0 none 2 rfl (fun e => by cases e)) 0 2⟩, trivial, trivial, trivial⟩ fun a hA => ?_
          refine m_one 2 ?_; refine q_call 2 127 58 #[.tmp 126] #[66] [vl] (fun S v_ w' => Rd S w' v_ (vertsL l)) [(125, .agg #[.int .i64 n, ve]), (128, va)] hA H (by exact rverts_any vl l H.at ((H.arg hL)) (by omega)) fun v87 a w88 S hR89 H hA hG => ?_
          replace H := H.ro hR89
          replace hD := hD.below hG
          refine ⟨fun _ => hD, ?_⟩
          refine m_take (n := 2) [4] #[true, true, true, true, true, false, false] [(129, .agg #[v87, va])] [(125, .agg #[.int .i64 n, ve]), (129, .agg #[v87, va])] ((∀ w, (Instr.build 29 #[(0, v87), (1, va)]).run Try.prog w = .ok (.agg #[v87, va]) w) ∧ True) hA hD ⟨fun w => by obtain ⟨_, _, _, e0⟩ := rd_form (H.get 0 rfl); rw [e0]; obtain ⟨_, _, _, e1⟩ := rd_form (H.out 1 rfl); rw [e1]; kernel_rfl, trivial⟩ fun a hA => ?_
          refine m_one 5 ?_; refine q_one 5 [(130, .bool (solidB n e (vertsL l) al))] [(130, .bool (solidB n e (vertsL l) al))] ((Callable Try.prog 88 ∧ CallOk Try.prog (On w88) 88 [.agg #[.int .i64 n, ve], .agg #[v87, va]].toArray (.bool (solidB n e (vertsL l) al))) ∧ True) hA H ⟨⟨callable_of, callOk_of fun w hw => by exact rsolid_any n ve e v87 va (vertsL l) al w (by omega) (((H.on hw).out 2 rfl)) (((H.on hw).get 0 rfl)) (((H.on hw).out 1 rfl)) hpt⟩, trivial⟩ fun a w91 H hA hG => ?_
          replace hD := hD.below hG
          refine ⟨fun _ => hD, ?_⟩
          refine m_one 6 ?_; refine q_one 6 [] [(2, .bool (solidB n e (vertsL l) al))] ((True) ∧ True) hA H ⟨trivial, trivial⟩ fun a w92 H hA hG => ?_
          refine ⟨fun h => absurd h (by decide), ?_⟩
          refine m_end ?_
          refine hK85 _ _ ?_
          refine go_ret_ ?_
          refine ret_one 2 (.bool (solidB n e (vertsL l) al)) hA ?_
          exact ans_b' (by rw [rk_ok hwh hre, hn, he, hal]) H.below

end Go.Proofs.Ytahonnlgkmimlaa

set_option linter.unusedSimpArgs false
set_option linter.unusedVariables false
namespace Go.Proofs.Ytahonnlgkmimlaa
open Go.RowKit

end Go.Proofs.Ytahonnlgkmimlaa

set_option linter.unusedSimpArgs false
set_option linter.unusedVariables false
namespace Go.Proofs.Ytahonnlgkmimlaa
open Go.RowKit

end Go.Proofs.Ytahonnlgkmimlaa

set_option linter.unusedSimpArgs false
set_option linter.unusedVariables false
namespace Go.Proofs.Ytahonnlgkmimlaa
open Go.RowKit

end Go.Proofs.Ytahonnlgkmimlaa

set_option linter.unusedSimpArgs false
set_option linter.unusedVariables false
namespace Go.Proofs.Ytahonnlgkmimlaa
open Go.RowKit

def awL : List Lk := [(0, (1, 0)), (1, (2, 1)), (2, (3, 2)), (3, (0, 3)), (0, (2, 4))]
theorem awL_whole : wholeR awL = (((4, [(0, 1), (1, 2), (2, 3), (3, 0), (0, 2)]), ([0, 1, 2, 3], [0, 1, 2, 3, 4])), true) := by
  have h1 : okWh awL := by decide +kernel
  have h2 : rightE (nK awL) (eK awL) = 0 := by decide +kernel
  rw [wholeR_ok h1, spanE_ok h2 (by decide +kernel)]
  decide +kernel
theorem awL_first : firstK awL = some (0, (2, [0, 1])) := by
  unfold firstK rightK candU besK
  rw [awL_whole]
  decide +kernel
theorem awL_wf : WfL awL := by
  intro i h0 h1
  have h1 : i < 5 := h1
  have : i = 0 ∨ i = 1 ∨ i = 2 ∨ i = 3 ∨ i = 4 := by omega
  unfold wfI
  rcases this with rfl | rfl | rfl | rfl | rfl <;> decide +kernel
theorem aw_giv {S : Stab} {w : World} {v : Value} (h : ∃ sd, v = .tuple #[.agg #[.int .i64 (firstD awL).1, .int .i64 (firstD awL).2.1, sd], .bool (firstK awL).isSome] ∧ Rd S w sd (firstD awL).2.2) :
    ∃ sd, v = .tuple #[.agg #[.int .i64 0, .int .i64 2, sd], .bool true] ∧ Rd S w sd ([0, 1] : List Int) := by
  unfold firstD at h; rw [awL_first] at h; exact h
-- ---- what the reference takes off
def offM (l : List Lk) (sd : List Int) (i : Int) : List Lk := ((upto i).filter fun j => decide (j ∈ sd)).map fun j => l.getD j.toNat (0, (0, 0))
def restM (l : List Lk) (sd : List Int) (i : Int) : List Lk := ((upto i).filter fun j => !decide (j ∈ sd)).map fun j => l.getD j.toNat (0, (0, 0))
end Go.Proofs.Ytahonnlgkmimlaa

set_option linter.unusedSimpArgs false
set_option linter.unusedVariables false
namespace Go.Proofs.Ytahonnlgkmimlaa
open Go.RowKit

set_option maxRecDepth 100000 in
set_option maxHeartbeats 1000000 in
theorem of_any (vl : Value) (l : List (Int × Int × Int)) (o : Orig) (hL : Rd (· < o.w.heap.size) o.w vl l) (hs : l.length ≤ 100000) :
  Calls Try.prog 57 [vl].toArray o.w (Giv o (fun S v w' => Rd S w' v (l))) := by
  refine enter Try.f57 31 Try.func57 fun a hA => ?_
  replace hA := env_sub [(0, vl)] hA
  have H := Fr.start o
  refine go_seq fun K1 hK1 => ?_
  refine q_reg [] [(0, vl)] ((True) ∧ True) hA H ⟨trivial, trivial⟩ fun a w2 hA H hG => ?_
  refine hK1 _ _ ?_
  refine go_seq fun K3 hK3 => ?_
  refine q_reg [] [(0, vl), (3, (.slice none 0 0))] ((True) ∧ True) hA H ⟨trivial, trivial⟩ fun a w4 hA H hG => ?_
  refine hK3 _ _ ?_
  refine go_seq fun K5 hK5 => ?_
  refine go_seq fun K6 hK6 => ?_
  refine q_reg [] [(0, vl), (3, (.slice none 0 0)), (4, .int .i64 0)] ((True) ∧ True) hA H ⟨trivial, trivial⟩ fun a w7 hA H hG => ?_
  refine hK6 _ _ ?_
  refine go_block 0 ?_
  replace H := H.newRow (α := Int × Int × Int) 92
  refine go_loop_ (Int × Value × List (Int × Int × Int)) (fun x_ a W => (fun (i : Int) (vr : Value) (e : List (Int × Int × Int)) => EnvOk 31 a (keepEnv [(0, vl), (3, vr), (4, .int .i64 i)]) ∧ (∃ S, Fr o W S [.row 92 vr e]) ∧ 0 ≤ i ∧ i ≤ (l.length : Int) ∧ (e.length : Int) ≤ i ∧ e = l.take i.toNat) x_.1 x_.2.1 x_.2.2) (fun x_ => (fun (i : Int) (vr : Value) (e : List (Int × Int × Int)) => ((l.length : Int) - i).toNat) x_.1 x_.2.1 x_.2.2) (0, .slice none 0 0, []) ?_ (fun x_ a w9 hI => ?_)
  · (try dsimp only); exact ⟨env_sub _ hA, ⟨_, H⟩, by omega, by omega, by simp, by simp⟩
  obtain ⟨i, vr, e⟩ := x_
  obtain ⟨hA, ⟨S, H⟩, h0, h0b, h1, hi⟩ := hI
  try dsimp only at h0 h0b h1 hi
  replace H : Fr _ _ _ [.row 92 vr e] := H
  refine go_seq fun K10 hK10 => ?_
  refine go_seq fun K11 hK11 => ?_
  refine q_reg [(7, .int .i64 (l.length : Int))] [(0, vl), (3, vr), (4, .int .i64 i), (8, .bool (decide (i < (l.length : Int))))] ((True) ∧ (True) ∧ (LenOk vl (l.length : Int)) ∧ (True) ∧ True) hA H ⟨trivial, trivial, by exact len_ok (H.arg hL), trivial, trivial⟩ fun a w12 hA H hG => ?_
  refine hK11 _ _ ?_
  refine go_cond hA (.tmp 8) (decide (i < (l.length : Int))) (fun hb13 => ?_) (fun hb13 => ?_)
  · have hhb13 := of_decide_eq_true hb13
    refine go_skip ?_
    refine hK10 _ _ ?_
    refine go_seq fun K14 hK14 => ?_
    refine go_block 1 ?_
    have H0 := H
    have hM0 := H0.keeps vr.ownBlock (.inr ⟨_, List.mem_of_getElem? (i := 0) rfl, rfl⟩)
    refine region_mix (But w12 vr.ownBlock) [0, 1, 2, 3, 4, 5, 6, 7, 8, 9, 10, 11, 12, 13, 14, 15, 16, 17, 18] 20 ?_
    replace H := H.drawn; have hD := But.drew w12 vr.ownBlock
    generalize ({ w12 with drawn := w12.drawn + 1 } : World) = w15 at H hD ⊢
    refine m_take (n := 3) [0, 1, 2, 3, 4, 5, 6, 7, 8, 9, 10, 11, 12, 13, 14, 15, 16] #[true, true, true, true, true, true, true, true, true, true, true, true, true, true, true, true, true, false, false, false] [(16, .int .i64 ((l.getD i.toNat (0, (0, 0))).1)), (21, .int .i64 (((l.getD i.toNat (0, (0, 0))).2).1)), (26, .int .i64 (((l.getD i.toNat (0, (0, 0))).2).2)), (27, .agg #[.int .i64 ((l.getD i.toNat (0, (0, 0))).1), .int .i64 (((l.getD i.toNat (0, (0, 0))).2).1), .int .i64 (((l.getD i.toNat (0, (0, 0))).2).2)])] [(0, vl), (3, vr), (4, .int .i64 i), (11, vr), (27, .agg #[.int .i64 ((l.getD i.toNat (0, (0, 0))).1), .int .i64 (((l.getD i.toNat (0, (0, 0))).2).1), .int .i64 (((l.getD i.toNat (0, (0, 0))).2).2)])] ((True) ∧ (True) ∧ (True) ∧ ((Try.prog.info? 113).isSome = true ∧ IdxOk vl i) ∧ (0 < Try.prog.cellsOf 3) ∧ (CellOk (But w12 vr.ownBlock) (hdB vl) (hdO vl + i.toNat * 3 + 0) (.int .i64 ((l.getD i.toNat (0, (0, 0))).1))) ∧ (True) ∧ (True) ∧ ((Try.prog.info? 113).isSome = true ∧ IdxOk vl i) ∧ (0 < Try.prog.cellsOf 3) ∧ (CellOk (But w12 vr.ownBlock) (hdB vl) (hdO vl + i.toNat * 3 + 1) (.int .i64 (((l.getD i.toNat (0, (0, 0))).2).1))) ∧ (True) ∧ (True) ∧ ((Try.prog.info? 113).isSome = true ∧ IdxOk vl i) ∧ (0 < Try.prog.cellsOf 3) ∧ (CellOk (But w12 vr.ownBlock) (hdB vl) (hdO vl + i.toNat * 3 + 2) (.int .i64 (((l.getD i.toNat (0, (0, 0))).2).2))) ∧ (∀ w, (Instr.build 92 #[(0, .int .i64 ((l.getD i.toNat (0, (0, 0))).1)), (1, .int .i64 (((l.getD i.toNat (0, (0, 0))).2).1)), (2, .int .i64 (((l.getD i.toNat (0, (0, 0))).2).2))]).run Try.prog w = .ok (.agg #[.int .i64 ((l.getD i.toNat (0, (0, 0))).1), .int .i64 (((l.getD i.toNat (0, (0, 0))).2).1), .int .i64 (((l.getD i.toNat (0, (0, 0))).2).2)]) w) ∧ True) hA hD ⟨trivial, trivial, trivial, ⟨by kernel_rfl, by exact idx_ok (H0.argT hL) (by omega) (by omega)⟩, by decide +kernel, by exact cell_flatC hM0 (i := i) (H0.argT hL) (by omega) (by omega) (0, (0, 0)) 0, trivial, trivial, ⟨by kernel_rfl, by exact idx_ok (H0.argT hL) (by omega) (by omega)⟩, by decide +kernel, by exact cell_flatC hM0 (i := i) (H0.argT hL) (by omega) (by omega) (0, (0, 0)) 1, trivial, trivial, ⟨by kernel_rfl, by exact idx_ok (H0.argT hL) (by omega) (by omega)⟩, by decide +kernel, by exact cell_flatC hM0 (i := i) (H0.argT hL) (by omega) (by omega) (0, (0, 0)) 2, fun w => by kernel_rfl, trivial⟩ fun a hA => ?_
    refine m_one 17 ?_; refine q_lit 17 28 69 1 #[(0, .tmp 27)] 92 [(0, .agg #[.int .i64 ((l.getD i.toNat (0, (0, 0))).1), .int .i64 (((l.getD i.toNat (0, (0, 0))).2).1), .int .i64 (((l.getD i.toNat (0, (0, 0))).2).2)])] [.int .i64 ((l.getD i.toNat (0, (0, 0))).1), .int .i64 (((l.getD i.toNat (0, (0, 0))).2).1), .int .i64 (((l.getD i.toNat (0, (0, 0))).2).2)] [(0, vl), (3, vr), (4, .int .i64 i), (11, vr)] hA H fun b16 a w17 H hA hG hge_b16 => ?_
    replace hge_b16 := Nat.le_trans hD.1 hge_b16
    replace hD := hD.below hG
    refine ⟨fun _ => hD, ?_⟩
    refine m_one 18 ?_; refine q_push 18 29 (.tmp 11) (.tmp 28) 1 0 b16 1 1 vr e [((l.getD i.toNat (0, (0, 0))).1, (((l.getD i.toNat (0, (0, 0))).2).1, ((l.getD i.toNat (0, (0, 0))).2).2))] [.int .i64 ((l.getD i.toNat (0, (0, 0))).1), .int .i64 (((l.getD i.toNat (0, (0, 0))).2).1), .int .i64 (((l.getD i.toNat (0, (0, 0))).2).2)] [(0, vl), (3, vr), (4, .int .i64 i)] hA H Try.E69 rfl rfl (by exact (RowRd.single (α := Int × Int × Int) ⟨[_], _, rfl, rfl, ⟨[_], _, rfl, rfl, rfl⟩⟩)) rfl (by simp only [List.length_cons, List.length_nil, List.length_append]; omega) (by decide) fun v18 a w19 H hA hG => ?_
    replace H : Fr _ _ _ [.row 92 v18 (e ++ [((l.getD i.toNat (0, (0, 0))).1, (((l.getD i.toNat (0, (0, 0))).2).1, ((l.getD i.toNat (0, (0, 0))).2).2))])] := H.drop 0
    replace hD := hD.grown hG (fun b hb => .inl hb.symm)
    refine ⟨fun _ => hD, ?_⟩
    refine m_one 19 ?_; refine q_one 19 [] [(0, vl), (3, v18), (4, .int .i64 i)] ((True) ∧ True) hA H ⟨trivial, trivial⟩ fun a w20 H hA hG => ?_
    refine ⟨fun h => absurd h (by decide), ?_⟩
    refine m_end ?_
    refine hK14 _ _ ?_
    refine q_reg [] [(0, vl), (3, v18), (4, .int .i64 (i + 1))] ((True) ∧ (InR .i64 (i + 1)) ∧ (True) ∧ True) hA H ⟨trivial, ⟨by omega, by omega⟩, trivial, trivial⟩ fun a w21 hA H hG => ?_
    refine ⟨(i + 1, v18, e ++ [((l.getD i.toNat (0, (0, 0))).1, (((l.getD i.toNat (0, (0, 0))).2).1, ((l.getD i.toNat (0, (0, 0))).2).2))]), ⟨env_sub _ hA, ⟨_, H⟩, ?_⟩, ?_⟩
    · (try dsimp only); exact ⟨by omega, by omega, by (try simp only [List.length_append, List.length_cons, List.length_nil]); omega, by rw [take_snocK h0 (by omega), ← hi]⟩
    · (try dsimp only); omega
  · have hhb13 := of_decide_eq_false hb13
    refine go_exit 0 ?_
    refine hK5 _ _ ?_
    refine go_seq fun K22 hK22 => ?_
    refine q_reg [] [(2, vr)] ((True) ∧ (True) ∧ True) hA H ⟨trivial, trivial, trivial⟩ fun a w23 hA H hG => ?_
    refine hK22 _ _ ?_
    refine go_ret_ ?_
    refine ret_one 2 vr hA ?_
    have ho := (H.give 0 rfl)
    rw [List.take_of_length_le (by omega)] at hi; rw [hi] at ho; exact ⟨_, rfl, ho, H.below⟩

end Go.Proofs.Ytahonnlgkmimlaa

set_option linter.unusedSimpArgs false
set_option linter.unusedVariables false
namespace Go.Proofs.Ytahonnlgkmimlaa
open Go.RowKit

set_option maxRecDepth 100000 in
set_option maxHeartbeats 1000000 in
theorem awakeP_any  (w : World) :
  Calls Try.prog 55 [].toArray w (Ans (.bool true) w) := by
  refine enter Try.f55 30 Try.func55 fun a hA => ?_
  replace hA := env_sub [] hA
  have H := Fr.start (org w)
  refine go_seq fun K1 hK1 => ?_
  refine q_reg [] [] ((True) ∧ True) hA H ⟨trivial, trivial⟩ fun a w2 hA H hG => ?_
  refine hK1 _ _ ?_
  refine go_seq fun K3 hK3 => ?_
  refine region_list ?_
  refine q_list 0 5 [(4, .agg #[.int .i64 0, .int .i64 1, .int .i64 0]), (5, .agg #[.int .i64 1, .int .i64 2, .int .i64 1]), (6, .agg #[.int .i64 2, .int .i64 3, .int .i64 2]), (7, .agg #[.int .i64 3, .int .i64 0, .int .i64 3]), (8, .agg #[.int .i64 0, .int .i64 2, .int .i64 4])] [(4, .agg #[.int .i64 0, .int .i64 1, .int .i64 0]), (5, .agg #[.int .i64 1, .int .i64 2, .int .i64 1]), (6, .agg #[.int .i64 2, .int .i64 3, .int .i64 2]), (7, .agg #[.int .i64 3, .int .i64 0, .int .i64 3]), (8, .agg #[.int .i64 0, .int .i64 2, .int .i64 4])] ((∀ w, (Instr.build 92 #[(0, .int .i64 0), (1, .int .i64 1), (2, .int .i64 0)]).run Try.prog w = .ok (.agg #[.int .i64 0, .int .i64 1, .int .i64 0]) w) ∧ (∀ w, (Instr.build 92 #[(0, .int .i64 1), (1, .int .i64 2), (2, .int .i64 1)]).run Try.prog w = .ok (.agg #[.int .i64 1, .int .i64 2, .int .i64 1]) w) ∧ (∀ w, (Instr.build 92 #[(0, .int .i64 2), (1, .int .i64 3), (2, .int .i64 2)]).run Try.prog w = .ok (.agg #[.int .i64 2, .int .i64 3, .int .i64 2]) w) ∧ (∀ w, (Instr.build 92 #[(0, .int .i64 3), (1, .int .i64 0), (2, .int .i64 3)]).run Try.prog w = .ok (.agg #[.int .i64 3, .int .i64 0, .int .i64 3]) w) ∧ (∀ w, (Instr.build 92 #[(0, .int .i64 0), (1, .int .i64 2), (2, .int .i64 4)]).run Try.prog w = .ok (.agg #[.int .i64 0, .int .i64 2, .int .i64 4]) w) ∧ True) hA H ⟨fun w => by kernel_rfl, fun w => by kernel_rfl, fun w => by kernel_rfl, fun w => by kernel_rfl, fun w => by kernel_rfl, trivial⟩ fun a w4 hA H hG => ?_
  refine list_at 5 ?_; refine q_lit 5 9 69 5 #[(0, .tmp 4), (1, .tmp 5), (2, .tmp 6), (3, .tmp 7), (4, .tmp 8)] 92 [(0, .agg #[.int .i64 0, .int .i64 1, .int .i64 0]), (1, .agg #[.int .i64 1, .int .i64 2, .int .i64 1]), (2, .agg #[.int .i64 2, .int .i64 3, .int .i64 2]), (3, .agg #[.int .i64 3, .int .i64 0, .int .i64 3]), (4, .agg #[.int .i64 0, .int .i64 2, .int .i64 4])] [.int .i64 0, .int .i64 1, .int .i64 0, .int .i64 1, .int .i64 2, .int .i64 1, .int .i64 2, .int .i64 3, .int .i64 2, .int .i64 3, .int .i64 0, .int .i64 3, .int .i64 0, .int .i64 2, .int .i64 4] [] hA H fun b5 a w6 H hA hG hge_b5 => ?_
  clear hge_b5
  refine list_at 6 ?_; refine q_call 6 10 65 #[.tmp 9] #[69] [(.slice (some ⟨b5, 0, none⟩) 5 5)] (fun S v_ w' => ∃ sd, v_ = .tuple #[.agg #[.int .i64 0, .int .i64 2, sd], .bool true] ∧ Rd S w' sd ([0, 1] : List Int)) [] hA H (by exact ((first_any (.slice (some ⟨b5, 0, none⟩) 5 5) awL H.at ((H.lit 0 rfl (l := ([(0, (1, 0)), (1, (2, 1)), (2, (3, 2)), (3, (0, 3)), (0, (2, 4))] : List (Int × Int × Int))) (by exact (((((RowRd.single (α := Int × Int × Int) (a := (0, (1, 0))) (by exact ⟨[_], _, rfl, rfl, ⟨[_], _, rfl, rfl, rfl⟩⟩)).append (RowRd.single (α := Int × Int × Int) (a := (1, (2, 1))) (by exact ⟨[_], _, rfl, rfl, ⟨[_], _, rfl, rfl, rfl⟩⟩))).append (RowRd.single (α := Int × Int × Int) (a := (2, (3, 2))) (by exact ⟨[_], _, rfl, rfl, ⟨[_], _, rfl, rfl, rfl⟩⟩))).append (RowRd.single (α := Int × Int × Int) (a := (3, (0, 3))) (by exact ⟨[_], _, rfl, rfl, ⟨[_], _, rfl, rfl, rfl⟩⟩))).append (RowRd.single (α := Int × Int × Int) (a := (0, (2, 4))) (by exact ⟨[_], _, rfl, rfl, ⟨[_], _, rfl, rfl, rfl⟩⟩)))) (n := 5) rfl (by decide))) (by decide) awL_wf).mono fun e w' ⟨v, h1, h2, h3⟩ => ⟨v, h1, aw_giv h2, h3⟩)) fun v7 a w8 S hR9 H hA hG => ?_
  obtain ⟨v7s, rfl, hR9s⟩ := hR9
  replace H := H.ro hR9s
  replace H : Fr _ _ _ [.ro v7s ([0, 1] : List Int), .box b5 92 [.int .i64 0, .int .i64 1, .int .i64 0, .int .i64 1, .int .i64 2, .int .i64 1, .int .i64 2, .int .i64 3, .int .i64 2, .int .i64 3, .int .i64 0, .int .i64 3, .int .i64 0, .int .i64 2, .int .i64 4]] := H
  refine q_list 7 3 [] [(11, .agg #[.int .i64 0, .int .i64 2, v7s]), (12, .bool true)] ((True) ∧ (True) ∧ (True) ∧ True) hA H ⟨trivial, trivial, trivial, trivial⟩ fun a w11 hA H hG => ?_
  refine list_at 10 ?_; refine q_alloc 10 1 81 [.int .i64 0, .int .i64 0, (.slice none 0 0)] [(11, .agg #[.int .i64 0, .int .i64 2, v7s]), (12, .bool true)] hA H fun b12 a w13 H hA hG hge_b12 => ?_
  clear hge_b12
  refine list_at 11 ?_; refine q_store 11 81 (.tmp 1) (.tmp 11) 0 b12 (0) 81 [.int .i64 0, .int .i64 0, (.slice none 0 0)] [.int .i64 0, .int .i64 2, v7s] [.int .i64 0, .int .i64 2, v7s] (.agg #[.int .i64 0, .int .i64 2, v7s]) [(1, .pointer (some ⟨b12, 0, none⟩)), (12, .bool true)] hA H rfl rfl (Nat.le_of_ble_eq_true (by kernel_rfl)) rfl (fun v hv => by simp only [List.mem_cons, List.not_mem_nil, or_false] at hv; rcases hv with rfl | rfl | rfl; exact rfl; exact rfl; exact (rd_one (H.get 1 rfl))) fun a w14 H hA hG => ?_
  replace H : Fr _ _ _ [.box b12 81 [.int .i64 0, .int .i64 2, v7s], .ro v7s ([0, 1] : List Int), .box b5 92 [.int .i64 0, .int .i64 1, .int .i64 0, .int .i64 1, .int .i64 2, .int .i64 1, .int .i64 2, .int .i64 3, .int .i64 2, .int .i64 3, .int .i64 0, .int .i64 3, .int .i64 0, .int .i64 2, .int .i64 4]] := H
  refine q_list 12 1 [] [(1, .pointer (some ⟨b12, 0, none⟩)), (2, .bool true)] ((True) ∧ True) hA H ⟨trivial, trivial⟩ fun a w15 hA H hG => ?_
  refine list_end ?_
  refine hK3 _ _ ?_
  refine go_seq fun K16 hK16 => ?_
  refine region_list ?_
  refine q_list 0 12 [(16, .int .i64 0), (21, .int .i64 2)] [(1, .pointer (some ⟨b12, 0, none⟩)), (24, .bool ((decide ((0 : Int) = 0)) && (decide ((2 : Int) = 2))))] ((True) ∧ (True) ∧ ((true) = true → 0 < Try.prog.cellsOf 3) ∧ ((true) = true → CellOk (On w15) b12 (0 + 0) (.int .i64 0)) ∧ ((true) = true → True) ∧ (True) ∧ (True) ∧ ((decide ((0 : Int) = 0)) = true → 0 < Try.prog.cellsOf 3) ∧ ((decide ((0 : Int) = 0)) = true → CellOk (On w15) b12 (0 + 1) (.int .i64 2)) ∧ ((decide ((0 : Int) = 0)) = true → True) ∧ (True) ∧ (True) ∧ True) hA H ⟨trivial, trivial, fun _ => by decide +kernel, fun _ => by exact box_cell H 0 rfl 0, fun _ => trivial, trivial, trivial, fun _ => by decide +kernel, fun _ => by exact box_cell H 0 rfl 1, fun _ => trivial, trivial, trivial, trivial⟩ fun a w17 hA H hG => ?_
  refine q_listK [(24, true)] 12 2 [(26, v7s)] [(24, .bool ((decide ((0 : Int) = 0)) && (decide ((2 : Int) = 2)))), (26, v7s)] ((((((decide ((0 : Int) = 0)) && (decide ((2 : Int) = 2))) = true) ∧ True) ∧ (0 < Try.prog.cellsOf 27)) ∧ (((((decide ((0 : Int) = 0)) && (decide ((2 : Int) = 2))) = true) ∧ True) ∧ (CellOk (On w17) b12 (0 + 2) (v7s))) ∧ True) hA H ⟨⟨⟨(by simp []), trivial⟩, by decide +kernel⟩, ⟨⟨(by simp []), trivial⟩, by exact box_cell H 0 rfl 2⟩, trivial⟩ fun a w18 hA H hG => ?_
  refine list_at 14 ?_; refine op_on [(24, true)] ((((decide ((0 : Int) = 0)) && (decide ((2 : Int) = 2))) = true) ∧ True) hA ⟨(by simp []), trivial⟩ ?_; refine q_lit 14 27 27 2 #[(0, .const (.int .i64 0)), (1, .const (.int .i64 1))] 3 [(0, .int .i64 0), (1, .int .i64 1)] [.int .i64 0, .int .i64 1] [(24, .bool ((decide ((0 : Int) = 0)) && (decide ((2 : Int) = 2)))), (26, v7s)] hA H fun b19 a w20 H hA hG hge_b19 => ?_
  clear hge_b19
  refine q_listK [(24, true)] 15 3 [(28, .bool (decide (([0, 1] : List Int) = ([0, 1] : List Int))))] [(0, .bool (decide (([0, 1] : List Int) = ([0, 1] : List Int))))] ((((((decide ((0 : Int) = 0)) && (decide ((2 : Int) = 2))) = true) ∧ True) ∧ (Callable Try.prog 36 ∧ CallOk Try.prog (On w20) 36 [v7s, (.slice (some ⟨b19, 0, none⟩) 2 2)].toArray (.bool (decide (([0, 1] : List Int) = ([0, 1] : List Int)))))) ∧ ((True) ∧ (((decide ((0 : Int) = 0)) && (decide ((2 : Int) = 2))) = true)) ∧ ((True) ∧ (True)) ∧ True) hA H ⟨⟨⟨(by simp []), trivial⟩, ⟨callable_of, callOk_of fun w hw => by exact requal_any v7s (.slice (some ⟨b19, 0, none⟩) 2 2) ([0, 1] : List Int) ([0, 1] : List Int) w (((H.on hw).get 2 rfl)) (((H.on hw).lit 0 rfl (l := ([0, 1] : List Int)) (by exact ((RowRd.single (α := Int) (a := 0) (by exact rfl)).append (RowRd.single (α := Int) (a := 1) (by exact rfl)))) (n := 2) rfl (by decide)))⟩⟩, ⟨trivial, (by simp [])⟩, ⟨trivial, trivial⟩, trivial⟩ fun a w21 hA H hG => ?_
  refine list_end ?_
  refine hK16 _ _ ?_
  refine go_ret_ ?_
  refine ret_one 0 (.bool (decide (([0, 1] : List Int) = ([0, 1] : List Int)))) hA ?_
  exact ans_b' (by decide +kernel) H.below

end Go.Proofs.Ytahonnlgkmimlaa

set_option linter.unusedSimpArgs false
set_option linter.unusedVariables false
namespace Go.Proofs.Ytahonnlgkmimlaa
open Go.RowKit

theorem verts_asc (l : List Lk) : Asc (vertsL l) := (compact_sort (endsK l)).1
theorem mem_verts {l : List Lk} {x : Int} : x ∈ vertsL l ↔ x ∈ endsK l := (compact_sort (endsK l)).2 x
theorem verts_rises {l : List Lk} (h : okWh l) : risesP (vertsL l) 1024 := by
  refine rises_iff.2 ⟨verts_asc l, fun x hx => ?_⟩
  obtain ⟨y, hy, hxy⟩ := List.mem_flatMap.1 (mem_verts.1 hx)
  obtain ⟨j, hj, rfl⟩ := List.getElem_of_mem hy
  have h9 := h j hj
  unfold okLk at h9
  rw [List.getD_eq_getElem?_getD, List.getElem?_eq_getElem hj, Option.getD_some] at h9
  simp only [List.mem_cons, List.not_mem_nil, or_false] at hxy
  rcases hxy with e | e <;> omega
theorem hasB_verts {l : List Lk} (h : rightK l = true) (x : Int) : hasB (vertsL l) x = decide (x ∈ vertsL l) := hasB_mem (verts_rises (rk_wh h).1)
theorem pcl_no {l : List Lk} {x y : Int} (h : ((rightK l = false ∨ x = y) ∨ ¬ x ∈ vertsL l) ∨ ¬ y ∈ vertsL l) : pclassesE l x y = [] := by
  refine pclassesE_no ?_
  by_cases hr : rightK l = true
  · rw [hasB_verts hr, hasB_verts hr, decide_eq_false_iff_not, decide_eq_false_iff_not]
    rcases h with ((h | h) | h) | h
    · exact .inr h
    · exact .inl (.inl (.inl h))
    · exact .inl (.inl (.inr h))
    · exact .inl (.inr h)
  · exact .inr (Bool.eq_false_iff.2 hr)
theorem pcl_yes {l : List Lk} {x y : Int} (h : ((rightK l = true ∧ ¬ x = y) ∧ x ∈ vertsL l) ∧ y ∈ vertsL l) : pclassesE l x y = classesL l x y := by
  refine pclassesE_ok ?_
  rw [hasB_verts h.1.1.1, hasB_verts h.1.1.1, decide_eq_true_eq, decide_eq_true_eq]
  exact ⟨⟨⟨h.1.1.2, h.1.2⟩, h.2⟩, h.1.1.1⟩

theorem wfL_of {l : List Lk} (h : ∀ b ∈ l, (-9223372036854775808 ≤ b.1 ∧ b.1 ≤ 9223372036854775807) ∧ (-9223372036854775808 ≤ b.2.1 ∧ b.2.1 ≤ 9223372036854775807) ∧ (-9223372036854775808 ≤ b.2.2 ∧ b.2.2 ≤ 9223372036854775807)) : WfL l := by
  intro i h0 h1
  exact h _ (getD_mem (l := l) (i := i.toNat) (d := (0, (0, 0))) (by omega))
theorem len64 {v : Value} {l : List Lk} {w : World} {S : Stab} (h : Rd S w v l) : l.length ≤ 9223372036854775807 := by have := rd_len h; omega
end Go.Proofs.Ytahonnlgkmimlaa

set_option linter.unusedSimpArgs false
set_option linter.unusedVariables false
namespace Go.Proofs.Ytahonnlgkmimlaa
open Go.RowKit

set_option maxRecDepth 100000 in
set_option maxHeartbeats 8000000 in
theorem pairClasses_any (vl : Value) (l : List (Int × Int × Int)) (x y : Int) (w : World) (hL : Rd (· < w.heap.size) w vl l) (hs : l.length ≤ 9223372036854775807) (hwf : WfL l) (hx : -9223372036854775808 ≤ x ∧ x ≤ 9223372036854775807) (hy : -9223372036854775808 ≤ y ∧ y ≤ 9223372036854775807) :
  Calls Try.prog 12 [vl, .int .i64 x, .int .i64 y].toArray w (Ans (.bool true) w) := by
  refine enter Try.f12 67 Try.func12 fun a hA => ?_
  replace hA := env_sub [(0, vl), (1, .int .i64 x), (2, .int .i64 y)] hA
  have H := Fr.start (org w)
  refine go_seq fun K1 hK1 => ?_
  refine q_reg [] [(0, vl), (1, .int .i64 x), (2, .int .i64 y)] ((True) ∧ True) hA H ⟨trivial, trivial⟩ fun a w2 hA H hG => ?_
  refine hK1 _ _ ?_
  refine go_seq fun K3 hK3 => ?_
  refine go_seq fun K4 hK4 => ?_
  refine q_reg [(9, .bool true), (13, .int .i64 (l.length : Int))] [(0, vl), (1, .int .i64 x), (2, .int .i64 y), (15, .bool (decide ((16 : Int) < (l.length : Int))))] ((Callable Try.prog 55 ∧ CallOk Try.prog (On w2) 55 [].toArray (.bool true)) ∧ (True) ∧ (True) ∧ ((false) = false → True) ∧ ((false) = false → LenOk vl (l.length : Int)) ∧ ((false) = false → True) ∧ (True) ∧ True) hA H ⟨⟨callable_of, callOk_of fun w hw => by exact awakeP_any w⟩, trivial, trivial, fun _ => trivial, fun _ => by exact len_ok (H.arg hL), fun _ => trivial, trivial, trivial⟩ fun a w5 hA H hG => ?_
  refine hK4 _ _ ?_
  refine go_cond hA (.tmp 15) (decide ((16 : Int) < (l.length : Int))) (fun hb6 => ?_) (fun hb6 => ?_)
  · have hhb6 := of_decide_eq_true hb6
    refine go_seq fun K7 hK7 => ?_
    refine q_reg [(16, .bool true)] [(6, .bool true)] ((Callable Try.prog 55 ∧ CallOk Try.prog (On w5) 55 [].toArray (.bool true)) ∧ (True) ∧ True) hA H ⟨⟨callable_of, callOk_of fun w hw => by exact awakeP_any w⟩, trivial, trivial⟩ fun a w8 hA H hG => ?_
    refine hK7 _ _ ?_
    refine go_ret_ ?_
    refine ret_one 6 (.bool true) hA ?_
    exact ans_b' rfl H.below
  · have hhb6 := of_decide_eq_false hb6
    refine go_skip ?_
    refine hK3 _ _ ?_
    refine go_seq fun K9 hK9 => ?_
    have hs2 : l.length ≤ 16 := by omega
    have hvl := verts_len l
    have hpl := pclasses_len l x y
    refine region_list ?_
    refine q_list 0 1 [] [(0, vl), (1, .int .i64 x), (2, .int .i64 y), (17, vl)] ((True) ∧ True) hA H ⟨trivial, trivial⟩ fun a w10 hA H hG => ?_
    refine list_at 1 ?_; refine q_call 1 18 57 #[.tmp 17] #[66] [vl] (fun S v_ w' => Rd S w' v_ (l)) [(0, vl), (1, .int .i64 x), (2, .int .i64 y)] hA H (by exact of_any vl l H.at ((H.arg hL)) (by omega)) fun v11 a w12 S hR13 H hA hG => ?_
    replace H := H.ro hR13
    refine q_list 2 2 [] [(0, vl), (1, .int .i64 x), (2, .int .i64 y), (18, v11), (19, .int .i64 x), (20, .int .i64 y)] ((True) ∧ (True) ∧ True) hA H ⟨trivial, trivial, trivial⟩ fun a w15 hA H hG => ?_
    refine list_at 4 ?_; refine q_call 4 21 56 #[.tmp 18, .tmp 19, .tmp 20] #[69, 3, 3] [v11, .int .i64 x, .int .i64 y] (fun S v_ w' => Rd S w' v_ ((pclassesE l x y))) [(0, vl), (1, .int .i64 x), (2, .int .i64 y)] hA H (by exact pclasses_any v11 l x y H.at ((H.get 0 rfl)) (by omega) hwf (by omega) (by omega)) fun v16 a w17 S hR18 H hA hG => ?_
    replace H := H.ro hR18
    refine q_list 5 1 [] [(0, vl), (1, .int .i64 x), (2, .int .i64 y), (7, v16)] ((True) ∧ True) hA H ⟨trivial, trivial⟩ fun a w20 hA H hG => ?_
    refine list_end ?_
    refine hK9 _ _ ?_
    refine go_seq fun K21 hK21 => ?_
    refine region_list ?_
    refine q_list 0 1 [] [(0, vl), (1, .int .i64 x), (2, .int .i64 y), (7, v16), (22, vl)] ((True) ∧ True) hA H ⟨trivial, trivial⟩ fun a w22 hA H hG => ?_
    refine list_at 1 ?_; refine q_call 1 23 58 #[.tmp 22] #[66] [vl] (fun S v_ w' => Rd S w' v_ (vertsL l)) [(0, vl), (1, .int .i64 x), (2, .int .i64 y), (7, v16)] hA H (by exact rverts_any vl l H.at ((H.arg hL)) (by omega)) fun v23 a w24 S hR25 H hA hG => ?_
    replace H := H.ro hR25
    refine q_list 2 1 [] [(0, vl), (1, .int .i64 x), (2, .int .i64 y), (7, v16), (8, v23)] ((True) ∧ True) hA H ⟨trivial, trivial⟩ fun a w27 hA H hG => ?_
    refine list_end ?_
    refine hK21 _ _ ?_
    refine go_seq fun K28 hK28 => ?_
    refine go_seq fun K29 hK29 => ?_
    refine region_list ?_
    refine q_list 0 1 [] [(0, vl), (1, .int .i64 x), (2, .int .i64 y), (7, v16), (8, v23), (24, vl)] ((True) ∧ True) hA H ⟨trivial, trivial⟩ fun a w30 hA H hG => ?_
    refine list_at 1 ?_; refine q_call 1 25 57 #[.tmp 24] #[66] [vl] (fun S v_ w' => Rd S w' v_ (l)) [(0, vl), (1, .int .i64 x), (2, .int .i64 y), (7, v16), (8, v23)] hA H (by exact of_any vl l H.at ((H.arg hL)) (by omega)) fun v31 a w32 S hR33 H hA hG => ?_
    replace H := H.ro hR33
    refine q_list 2 5 [(26, .bool (rightK l)), (28, .bool (rightK l))] [(0, vl), (1, .int .i64 x), (2, .int .i64 y), (7, v16), (8, v23), (30, .bool (!((rightK l) == (rightK l))))] ((Callable Try.prog 59 ∧ CallOk Try.prog (On w32) 59 [v31].toArray (.bool (rightK l))) ∧ (True) ∧ (Callable Try.prog 60 ∧ CallOk Try.prog (On w32) 60 [vl].toArray (.bool (rightK l))) ∧ (Try.prog.underlying 4 = some .bool) ∧ (True) ∧ True) hA H ⟨⟨callable_of, callOk_of fun w hw => by exact pright_any v31 l w (((H.on hw).get 0 rfl)) (by omega) hwf⟩, trivial, ⟨callable_of, callOk_of fun w hw => by exact rright14_any vl l w (((H.on hw).arg hL)) (by omega)⟩, Try.underlying4, trivial, trivial⟩ fun a w35 hA H hG => ?_
    have hb36 : (!((rightK l) == (rightK l))) = false := (by simp)
    have hhb36 := hb36
    refine q_listK [(30, false)] 7 1 [] [(0, vl), (1, .int .i64 x), (2, .int .i64 y), (7, v16), (8, v23), (30, .bool (!((rightK l) == (rightK l)))), (31, vl)] (((((!((rightK l) == (rightK l))) = false) ∧ True) ∧ (True)) ∧ True) hA H ⟨⟨⟨hb36, trivial⟩, trivial⟩, trivial⟩ fun a w37 hA H hG => ?_
    refine list_at 8 ?_; refine op_on [(30, false)] (((!((rightK l) == (rightK l))) = false) ∧ True) hA ⟨hb36, trivial⟩ ?_; refine q_call 8 32 57 #[.tmp 31] #[66] [vl] (fun S v_ w' => Rd S w' v_ (l)) [(0, vl), (1, .int .i64 x), (2, .int .i64 y), (7, v16), (8, v23), (30, .bool (!((rightK l) == (rightK l))))] hA H (by exact of_any vl l H.at ((H.arg hL)) (by omega)) fun v38 a w39 S hR40 H hA hG => ?_
    replace H := H.ro hR40
    refine list_at 9 ?_; refine op_on [(30, false)] (((!((rightK l) == (rightK l))) = false) ∧ True) hA ⟨hb36, trivial⟩ ?_; refine q_call 9 33 61 #[.tmp 32] #[69] [v38] (fun S v_ w' => Rd S w' v_ (vertsL l)) [(0, vl), (1, .int .i64 x), (2, .int .i64 y), (7, v16), (8, v23), (30, .bool (!((rightK l) == (rightK l))))] hA H (by exact verts_any v38 l H.at ((H.get 0 rfl)) (by omega)) fun v42 a w43 S hR44 H hA hG => ?_
    replace H := H.ro hR44
    refine q_listK [(30, false)] 10 4 [(35, .bool (decide ((vertsL l) = (vertsL l))))] [(0, vl), (1, .int .i64 x), (2, .int .i64 y), (7, v16), (8, v23), (37, .bool (!(decide ((vertsL l) = (vertsL l)))))] (((((!((rightK l) == (rightK l))) = false) ∧ True) ∧ (True)) ∧ ((((!((rightK l) == (rightK l))) = false) ∧ True) ∧ (Callable Try.prog 36 ∧ CallOk Try.prog (On w43) 36 [v42, v23].toArray (.bool (decide ((vertsL l) = (vertsL l)))))) ∧ ((((!((rightK l) == (rightK l))) = false) ∧ True) ∧ (True)) ∧ ((True) ∧ ((!((rightK l) == (rightK l))) = false)) ∧ True) hA H ⟨⟨⟨hb36, trivial⟩, trivial⟩, ⟨⟨hb36, trivial⟩, ⟨callable_of, callOk_of fun w hw => by exact requal_any v42 v23 (vertsL l) (vertsL l) w (((H.on hw).get 0 rfl)) (((H.on hw).get 3 rfl))⟩⟩, ⟨⟨hb36, trivial⟩, trivial⟩, ⟨trivial, hb36⟩, trivial⟩ fun a w46 hA H hG => ?_
    refine list_end ?_
    refine hK29 _ _ ?_
    refine go_cond hA (.tmp 37) (!(decide ((vertsL l) = (vertsL l)))) (fun hb47 => ?_) (fun hb47 => ?_)
    · have hhb47 := of_decide_eq_false (nT hb47)
      exact (hhb47 rfl).elim
    · have hhb47 := of_decide_eq_true (nF hb47)
      refine go_skip ?_
      refine hK28 _ _ ?_
      refine go_seq fun K48 hK48 => ?_
      refine go_seq fun K49 hK49 => ?_
      refine q_reg [(39, .bool (rightK l)), (49, .bool (decide (x ∈ (vertsL l)))), (55, .bool (decide (y ∈ (vertsL l))))] [(0, vl), (1, .int .i64 x), (2, .int .i64 y), (7, v16), (57, .bool ((((!(rightK l)) || (decide (x = y))) || (!(decide (x ∈ (vertsL l))))) || (!(decide (y ∈ (vertsL l))))))] ((True) ∧ (Callable Try.prog 60 ∧ CallOk Try.prog (On w46) 60 [vl].toArray (.bool (rightK l))) ∧ (True) ∧ (True) ∧ ((!(rightK l)) = false → True) ∧ ((!(rightK l)) = false → True) ∧ ((!(rightK l)) = false → True) ∧ (True) ∧ (True) ∧ (((!(rightK l)) || (decide (x = y))) = false → True) ∧ (((!(rightK l)) || (decide (x = y))) = false → True) ∧ (((!(rightK l)) || (decide (x = y))) = false → Callable Try.prog 24 ∧ CallOk Try.prog (On w46) 24 [v23, .int .i64 x].toArray (.bool (decide (x ∈ (vertsL l))))) ∧ (((!(rightK l)) || (decide (x = y))) = false → True) ∧ (True) ∧ (True) ∧ ((((!(rightK l)) || (decide (x = y))) || (!(decide (x ∈ (vertsL l))))) = false → True) ∧ ((((!(rightK l)) || (decide (x = y))) || (!(decide (x ∈ (vertsL l))))) = false → True) ∧ ((((!(rightK l)) || (decide (x = y))) || (!(decide (x ∈ (vertsL l))))) = false → Callable Try.prog 24 ∧ CallOk Try.prog (On w46) 24 [v23, .int .i64 y].toArray (.bool (decide (y ∈ (vertsL l))))) ∧ ((((!(rightK l)) || (decide (x = y))) || (!(decide (x ∈ (vertsL l))))) = false → True) ∧ (True) ∧ True) hA H ⟨trivial, ⟨callable_of, callOk_of fun w hw => by exact rright14_any vl l w (((H.on hw).arg hL)) (by omega)⟩, trivial, trivial, fun _ => trivial, fun _ => trivial, fun _ => trivial, trivial, trivial, fun _ => trivial, fun _ => trivial, fun _ => ⟨callable_of, callOk_of fun w hw => by exact in_any v23 (vertsL l) x w (((H.on hw).get 3 rfl))⟩, fun _ => trivial, trivial, trivial, fun _ => trivial, fun _ => trivial, fun _ => ⟨callable_of, callOk_of fun w hw => by exact in_any v23 (vertsL l) y w (((H.on hw).get 3 rfl))⟩, fun _ => trivial, trivial, trivial⟩ fun a w50 hA H hG => ?_
      refine hK49 _ _ ?_
      refine go_cond hA (.tmp 57) ((((!(rightK l)) || (decide (x = y))) || (!(decide (x ∈ (vertsL l))))) || (!(decide (y ∈ (vertsL l))))) (fun hb51 => ?_) (fun hb51 => ?_)
      · have hhb51 := (oT hb51).imp (fun h => (oT h).imp (fun h => (oT h).imp (fun h => (nT h)) (fun h => of_decide_eq_true h)) (fun h => of_decide_eq_false (nT h))) (fun h => of_decide_eq_false (nT h))
        refine go_seq fun K52 hK52 => ?_
        refine q_reg [(59, .int .i64 ((pclassesE l x y).length : Int))] [(6, .bool (decide (((pclassesE l x y).length : Int) = 0)))] ((True) ∧ (LenOk v16 ((pclassesE l x y).length : Int)) ∧ (True) ∧ (True) ∧ True) hA H ⟨trivial, by exact len_ok (H.get 4 rfl), trivial, trivial, trivial⟩ fun a w53 hA H hG => ?_
        refine hK52 _ _ ?_
        refine go_ret_ ?_
        refine ret_one 6 (.bool (decide (((pclassesE l x y).length : Int) = 0))) hA ?_
        exact ans_b' (by first | (rw [pcl_no hhb51]; rfl) | (rw [pcl_yes hhb51, decide_eq_true rfl])) H.below
      · have hhb51 := (⟨(⟨(⟨(nF ((oF ((oF ((oF hb51).1)).1)).1)), of_decide_eq_false ((oF ((oF ((oF hb51).1)).1)).2)⟩ : _ ∧ _), of_decide_eq_true (nF ((oF ((oF hb51).1)).2))⟩ : _ ∧ _), of_decide_eq_true (nF ((oF hb51).2))⟩ : _ ∧ _)
        refine go_skip ?_
        refine hK48 _ _ ?_
        refine go_seq fun K54 hK54 => ?_
        refine region_list ?_
        refine q_list 0 4 [] [(61, v16), (62, vl), (63, .int .i64 x), (64, .int .i64 y)] ((True) ∧ (True) ∧ (True) ∧ (True) ∧ True) hA H ⟨trivial, trivial, trivial, trivial, trivial⟩ fun a w55 hA H hG => ?_
        refine list_at 4 ?_; refine q_call 4 65 63 #[.tmp 62, .tmp 63, .tmp 64] #[66, 3, 3] [vl, .int .i64 x, .int .i64 y] (fun S v_ w' => Rd S w' v_ ((classesL l x y))) [(61, v16)] hA H (by exact rclasses_any vl l x y H.at ((H.arg hL)) (by omega) (by omega) (by omega)) fun v56 a w57 S hR58 H hA hG => ?_
        replace H := H.ro hR58
        refine q_list 5 2 [(66, .bool (decide ((pclassesE l x y) = (classesL l x y))))] [(6, .bool (decide ((pclassesE l x y) = (classesL l x y))))] ((Callable Try.prog 62 ∧ CallOk Try.prog (On w57) 62 [v16, v56].toArray (.bool (decide ((pclassesE l x y) = (classesL l x y))))) ∧ (True) ∧ True) hA H ⟨⟨callable_of, callOk_of fun w hw => by exact req6_any v16 v56 (pclassesE l x y) (classesL l x y) w (((H.on hw).get 5 rfl)) (((H.on hw).get 0 rfl))⟩, trivial, trivial⟩ fun a w60 hA H hG => ?_
        refine list_end ?_
        refine hK54 _ _ ?_
        refine go_ret_ ?_
        refine ret_one 6 (.bool (decide ((pclassesE l x y) = (classesL l x y)))) hA ?_
        exact ans_b' (by first | (rw [pcl_no hhb51]; rfl) | (rw [pcl_yes hhb51, decide_eq_true rfl])) H.below

end Go.Proofs.Ytahonnlgkmimlaa
