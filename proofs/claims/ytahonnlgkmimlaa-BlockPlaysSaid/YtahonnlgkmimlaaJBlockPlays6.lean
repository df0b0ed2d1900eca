/-
  Texts joined by program: WalkG7, WalkB5, WalkB10, WalkB11, WalkB12.
-/
import Derived.Test.YtahonnlgkmimlaaProg
import Derived.Test.YtahonnlgkmimlaaJBlockPlays5
set_option linter.unusedSimpArgs false
set_option linter.unusedVariables false
namespace Go.Proofs.Ytahonnlgkmimlaa
open Go.RowKit

set_option maxRecDepth 100000 in
set_option maxHeartbeats 1000000 in
theorem span_any (n : Int) (ve : Value) (E : List (Int × Int)) (vl : Value) (L : List Int) (o : Orig) (hn : -9223372036854775808 ≤ n ∧ n ≤ 9223372036854775807) (hE : Rd (· < o.w.heap.size) o.w ve E) (hL : Rd (· < o.w.heap.size) o.w vl L) :
  Calls Try.prog 26 [.agg #[.int .i64 n, ve], vl].toArray o.w (Giv o (fun S v w' => ∃ p, v = .tuple #[p, .int .i64 (spanE n E L).2] ∧ Rd S w' p (spanE n E L).1)) := by
  have hlenE := rd_len hE
  refine enter Try.f26 61 Try.func26 fun a hA => ?_
  replace hA := env_sub [(0, .agg #[.int .i64 n, ve]), (1, vl)] hA
  have H := Fr.start o
  refine go_seq fun K1 hK1 => ?_
  refine region_list ?_
  refine list_at 0 ?_; refine q_box 0 2 24 (.tmp 0) (.agg #[.int .i64 n, ve]) [.int .i64 n, ve] [(1, vl)] hA H fun b2 a w3 H hA hG hge_b2 => ?_
  clear hge_b2
  refine list_at 1 ?_; refine q_alloc 1 4 29 [(.slice none 0 0), (.slice none 0 0)] [(1, vl), (2, .pointer (some ⟨b2, 0, none⟩))] hA H fun b4 a w5 H hA hG hge_b4 => ?_
  clear hge_b4
  refine q_list 2 1 [] [(1, vl), (2, .pointer (some ⟨b2, 0, none⟩)), (4, .pointer (some ⟨b4, 0, none⟩))] ((True) ∧ True) hA H ⟨trivial, trivial⟩ fun a w6 hA H hG => ?_
  refine list_end ?_
  refine hK1 _ _ ?_
  refine go_seq fun K7 hK7 => ?_
  refine go_seq fun K8 hK8 => ?_
  refine q_reg [(10, .agg #[.int .i64 n, ve]), (11, .int .i64 (rightE n E))] [(1, vl), (2, .pointer (some ⟨b2, 0, none⟩)), (4, .pointer (some ⟨b4, 0, none⟩)), (6, .int .i64 (rightE n E))] (((Try.prog.info? 24).isSome = true ∧ RowOk (On w6) b2 (0) (Try.prog.cellsOf 24) #[.int .i64 n, ve]) ∧ (Callable Try.prog 20 ∧ CallOk Try.prog (On w6) 20 [.agg #[.int .i64 n, ve]].toArray (.int .i64 (rightE n E))) ∧ (True) ∧ True) hA H ⟨⟨by kernel_rfl, by exact box_row H 1 rfl 0 2⟩, ⟨callable_of, callOk_of fun w hw => by exact right_any n ve E w (by omega) (((H.on hw).arg hE))⟩, trivial, trivial⟩ fun a w9 hA H hG => ?_
  refine hK8 _ _ ?_
  refine go_seq fun K10 hK10 => ?_
  refine q_reg [] [(1, vl), (2, .pointer (some ⟨b2, 0, none⟩)), (4, .pointer (some ⟨b4, 0, none⟩)), (6, .int .i64 (rightE n E)), (13, .bool (!decide (rightE n E = 0)))] ((True) ∧ (True) ∧ True) hA H ⟨trivial, trivial, trivial⟩ fun a w11 hA H hG => ?_
  refine hK10 _ _ ?_
  refine go_cond hA (.tmp 13) (!decide (rightE n E = 0)) (fun hb12 => ?_) (fun hb12 => ?_)
  · have hhb12 := of_decide_eq_false (nT hb12)
    refine go_seq fun K13 hK13 => ?_
    refine region_list ?_
    refine q_list 0 2 [(14, .agg #[(.slice none 0 0), (.slice none 0 0)])] [(4, .pointer (some ⟨b4, 0, none⟩)), (14, .agg #[(.slice none 0 0), (.slice none 0 0)]), (15, .int .i64 (rightE n E))] ((∀ w, (Instr.build 29 #[]).run Try.prog w = .ok (.agg #[(.slice none 0 0), (.slice none 0 0)]) w) ∧ (True) ∧ True) hA H ⟨fun w => by kernel_rfl, trivial, trivial⟩ fun a w14 hA H hG => ?_
    refine list_at 2 ?_; refine q_store 2 29 (.tmp 4) (.tmp 14) 0 b4 (0) 29 [(.slice none 0 0), (.slice none 0 0)] [(.slice none 0 0), (.slice none 0 0)] [(.slice none 0 0), (.slice none 0 0)] (.agg #[(.slice none 0 0), (.slice none 0 0)]) [(4, .pointer (some ⟨b4, 0, none⟩)), (15, .int .i64 (rightE n E))] hA H rfl rfl (Nat.le_of_ble_eq_true (by kernel_rfl)) rfl (fun v hv => by simp only [List.mem_cons, List.not_mem_nil, or_false] at hv; rcases hv with rfl | rfl; exact rfl; exact rfl) fun a w15 H hA hG => ?_
    replace H : Fr _ _ _ [.box b4 29 [(.slice none 0 0), (.slice none 0 0)], .box b2 24 [.int .i64 n, ve]] := H
    refine q_list 3 1 [] [(4, .pointer (some ⟨b4, 0, none⟩)), (5, .int .i64 (rightE n E))] ((True) ∧ True) hA H ⟨trivial, trivial⟩ fun a w16 hA H hG => ?_
    refine list_end ?_
    refine hK13 _ _ ?_
    refine go_ret_ ?_
    refine ret_cell2 4 5 29 0 b4 29 [(.slice none 0 0), (.slice none 0 0)] #[(.slice none 0 0), (.slice none 0 0)] (.int .i64 (rightE n E)) hA H rfl ?_ (ht := ⟨_, Try.underlying29⟩)
    have e1 : spanE n E L = (([], []), rightE n E) := by unfold spanE; rw [if_pos hhb12]
    rw [e1]; exact ⟨_, rfl, ⟨_, rfl, rd_two rd_nil rd_nil⟩, H.below⟩
  · have hhb12 := of_decide_eq_true (nF hb12)
    refine go_skip ?_
    refine hK7 _ _ ?_
    refine go_seq fun K17 hK17 => ?_
    refine go_seq fun K18 hK18 => ?_
    refine q_reg [(18, ve), (19, .int .i64 (E.length : Int)), (20, .bool (decide (risesP L (E.length : Int))))] [(1, vl), (2, .pointer (some ⟨b2, 0, none⟩)), (4, .pointer (some ⟨b4, 0, none⟩)), (21, .bool (!(decide (risesP L (E.length : Int)))))] ((True) ∧ (0 < Try.prog.cellsOf 22) ∧ (CellOk (On w11) b2 (0 + 1) (ve)) ∧ (LenOk ve (E.length : Int)) ∧ (Callable Try.prog 73 ∧ CallOk Try.prog (On w11) 73 [vl, .int .i64 (E.length : Int)].toArray (.bool (decide (risesP L (E.length : Int))))) ∧ (True) ∧ True) hA H ⟨trivial, by decide +kernel, by exact box_cell H 1 rfl 1, by exact len_ok (H.arg hE), ⟨callable_of, callOk_of fun w hw => by exact rising_any vl L (E.length : Int) w (((H.on hw).arg hL))⟩, trivial, trivial⟩ fun a w19 hA H hG => ?_
    refine hK18 _ _ ?_
    refine go_cond hA (.tmp 21) (!(decide (risesP L (E.length : Int)))) (fun hb20 => ?_) (fun hb20 => ?_)
    · have hhb20 := of_decide_eq_false (nT hb20)
      refine go_seq fun K21 hK21 => ?_
      refine region_list ?_
      refine q_list 0 1 [(22, .agg #[(.slice none 0 0), (.slice none 0 0)])] [(4, .pointer (some ⟨b4, 0, none⟩)), (22, .agg #[(.slice none 0 0), (.slice none 0 0)])] ((∀ w, (Instr.build 29 #[]).run Try.prog w = .ok (.agg #[(.slice none 0 0), (.slice none 0 0)]) w) ∧ True) hA H ⟨fun w => by kernel_rfl, trivial⟩ fun a w22 hA H hG => ?_
      refine list_at 1 ?_; refine q_store 1 29 (.tmp 4) (.tmp 22) 0 b4 (0) 29 [(.slice none 0 0), (.slice none 0 0)] [(.slice none 0 0), (.slice none 0 0)] [(.slice none 0 0), (.slice none 0 0)] (.agg #[(.slice none 0 0), (.slice none 0 0)]) [(4, .pointer (some ⟨b4, 0, none⟩))] hA H rfl rfl (Nat.le_of_ble_eq_true (by kernel_rfl)) rfl (fun v hv => by simp only [List.mem_cons, List.not_mem_nil, or_false] at hv; rcases hv with rfl | rfl; exact rfl; exact rfl) fun a w23 H hA hG => ?_
      replace H : Fr _ _ _ [.box b4 29 [(.slice none 0 0), (.slice none 0 0)], .box b2 24 [.int .i64 n, ve]] := H
      refine q_list 2 1 [] [(4, .pointer (some ⟨b4, 0, none⟩)), (5, .int .i64 4)] ((True) ∧ True) hA H ⟨trivial, trivial⟩ fun a w24 hA H hG => ?_
      refine list_end ?_
      refine hK21 _ _ ?_
      refine go_ret_ ?_
      refine ret_cell2 4 5 29 0 b4 29 [(.slice none 0 0), (.slice none 0 0)] #[(.slice none 0 0), (.slice none 0 0)] (.int .i64 4) hA H rfl ?_ (ht := ⟨_, Try.underlying29⟩)
      have e1 : spanE n E L = (([], []), 4) := by unfold spanE; rw [if_neg (by omega), if_pos hhb20]
      rw [e1]; exact ⟨_, rfl, ⟨_, rfl, rd_two rd_nil rd_nil⟩, H.below⟩
    · have hhb20 := of_decide_eq_true (nF hb20)
      refine go_skip ?_
      refine hK17 _ _ ?_
      refine go_seq fun K25 hK25 => ?_
      have hr0 := rightE_0 (n := n) (E := E) (by omega)
      have hr1 := hhb20
      have hl9 := rises_len hr1 (by omega)
      refine region_list ?_
      refine list_at 0 ?_; refine q_alloc 0 7 29 [(.slice none 0 0), (.slice none 0 0)] [(1, vl), (2, .pointer (some ⟨b2, 0, none⟩)), (4, .pointer (some ⟨b4, 0, none⟩))] hA H fun b26 a w27 H hA hG hge_b26 => ?_
      clear hge_b26
      replace H := H.newRow (α := Int) 3
      replace H := H.newRow (α := Int) 3
      refine list_end ?_
      refine hK25 _ _ ?_
      refine go_seq fun K28 hK28 => ?_
      refine go_seq fun K29 hK29 => ?_
      refine q_reg [(24, .int .i64 (L.length : Int))] [(2, .pointer (some ⟨b2, 0, none⟩)), (4, .pointer (some ⟨b4, 0, none⟩)), (7, .pointer (some ⟨b26, 0, none⟩)), (23, vl), (24, .int .i64 (L.length : Int)), (25, .int .i64 0)] ((True) ∧ (LenOk vl (L.length : Int)) ∧ (True) ∧ True) hA H ⟨trivial, by exact len_ok (H.arg hL), trivial, trivial⟩ fun a w30 hA H hG => ?_
      refine hK29 _ _ ?_
      refine go_block 0 ?_
      refine go_loop_ (Int × Value × Value × List Int × List Int) (fun x_ a W => (fun (i : Int) (vr : Value) (vr2 : Value) (l : List Int) (l2 : List Int) => EnvOk 61 a (keepEnv [(2, .pointer (some ⟨b2, 0, none⟩)), (4, .pointer (some ⟨b4, 0, none⟩)), (7, .pointer (some ⟨b26, 0, none⟩)), (23, vl), (24, .int .i64 (L.length : Int)), (25, .int .i64 i)]) ∧ (∃ S, Fr o W S [.row 3 vr2 l2, .row 3 vr l, .box b26 29 [vr, vr2], .box b4 29 [(.slice none 0 0), (.slice none 0 0)], .box b2 24 [.int .i64 n, ve]]) ∧ 0 ≤ i ∧ i ≤ (L.length : Int) ∧ (l.length : Int) ≤ 2 * i ∧ (l2.length : Int) ≤ i ∧ l ++ endsL E (L.drop i.toNat) = endsL E L ∧ l2 ++ L.drop i.toNat = L) x_.1 x_.2.1 x_.2.2.1 x_.2.2.2.1 x_.2.2.2.2) (fun x_ => (fun (i : Int) (vr : Value) (vr2 : Value) (l : List Int) (l2 : List Int) => ((L.length : Int) - i).toNat) x_.1 x_.2.1 x_.2.2.1 x_.2.2.2.1 x_.2.2.2.2) (0, .slice none 0 0, .slice none 0 0, [], []) ?_ (fun x_ a w32 hI => ?_)
      · (try dsimp only); exact ⟨env_sub _ hA, ⟨_, H⟩, by omega, by omega, by simp, by simp, by simp, by simp⟩
      obtain ⟨i, vr, vr2, l, l2⟩ := x_
      obtain ⟨hA, ⟨S, H⟩, h0, h0b, h1, h2, hi, hi2⟩ := hI
      try dsimp only at h0 h0b h1 h2 hi hi2
      refine go_seq fun K33 hK33 => ?_
      refine q_reg [] [(2, .pointer (some ⟨b2, 0, none⟩)), (4, .pointer (some ⟨b4, 0, none⟩)), (7, .pointer (some ⟨b26, 0, none⟩)), (23, vl), (24, .int .i64 (L.length : Int)), (25, .int .i64 i), (26, .bool (decide (i < (L.length : Int))))] ((True) ∧ True) hA H ⟨trivial, trivial⟩ fun a w34 hA H hG => ?_
      refine hK33 _ _ ?_
      refine go_seq fun K35 hK35 => ?_
      refine go_cond hA (.tmp 26) (decide (i < (L.length : Int))) (fun hb36 => ?_) (fun hb36 => ?_)
      · have hhb36 := of_decide_eq_true hb36
        refine go_skip ?_
        refine hK35 _ _ ?_
        refine go_seq fun K37 hK37 => ?_
        refine go_block 1 ?_
        refine go_seq fun K38 hK38 => ?_
        have hx := hr1 i.toNat (by omega)
        refine q_reg [(28, .int .i64 (L.getD i.toNat 0))] [(2, .pointer (some ⟨b2, 0, none⟩)), (4, .pointer (some ⟨b4, 0, none⟩)), (7, .pointer (some ⟨b26, 0, none⟩)), (9, .int .i64 (L.getD i.toNat 0)), (23, vl), (24, .int .i64 (L.length : Int)), (25, .int .i64 i)] (((Try.prog.info? 3).isSome = true ∧ IdxOk vl i) ∧ (CellOk (On w34) (hdB vl) (hdO vl + i.toNat * 1) (.int .i64 (L.getD i.toNat 0))) ∧ (True) ∧ True) hA H ⟨⟨by kernel_rfl, by exact idx_ok (H.arg hL) (by omega) (by omega)⟩, by exact cell_flat (i := i) (H.arg hL) (by omega) (by omega) 0 0, trivial, trivial⟩ fun a w39 hA H hG => ?_
        refine hK38 _ _ ?_
        refine go_seq fun K40 hK40 => ?_
        refine region_list ?_
        refine q_list 0 3 [(30, vr2)] [(2, .pointer (some ⟨b2, 0, none⟩)), (4, .pointer (some ⟨b4, 0, none⟩)), (7, .pointer (some ⟨b26, 0, none⟩)), (9, .int .i64 (L.getD i.toNat 0)), (23, vl), (24, .int .i64 (L.length : Int)), (25, .int .i64 i), (30, vr2), (31, .int .i64 (L.getD i.toNat 0))] ((0 < Try.prog.cellsOf 27) ∧ (CellOk (On w39) b26 (0 + 1) (vr2)) ∧ (True) ∧ True) hA H ⟨by decide +kernel, by exact box_cell H 2 rfl 1, trivial, trivial⟩ fun a w41 hA H hG => ?_
        refine list_at 3 ?_; refine q_lit 3 32 27 1 #[(0, .tmp 31)] 3 [(0, .int .i64 (L.getD i.toNat 0))] [.int .i64 (L.getD i.toNat 0)] [(2, .pointer (some ⟨b2, 0, none⟩)), (4, .pointer (some ⟨b4, 0, none⟩)), (7, .pointer (some ⟨b26, 0, none⟩)), (9, .int .i64 (L.getD i.toNat 0)), (23, vl), (24, .int .i64 (L.length : Int)), (25, .int .i64 i), (30, vr2)] hA H fun b42 a w43 H hA hG hge_b42 => ?_
        clear hge_b42
        refine list_at 4 ?_; refine q_push 4 33 (.tmp 30) (.tmp 32) 1 0 b42 1 1 vr2 l2 [(L.getD i.toNat 0)] [.int .i64 (L.getD i.toNat 0)] [(2, .pointer (some ⟨b2, 0, none⟩)), (4, .pointer (some ⟨b4, 0, none⟩)), (7, .pointer (some ⟨b26, 0, none⟩)), (9, .int .i64 (L.getD i.toNat 0)), (23, vl), (24, .int .i64 (L.length : Int)), (25, .int .i64 i)] hA H Try.E27 rfl rfl (by exact (RowRd.single (α := Int) rfl)) rfl (by simp only [List.length_cons, List.length_nil, List.length_append]; omega) (by decide) fun v44 a w45 H hA hG => ?_
        replace H : Fr _ _ _ [.row 3 v44 (l2 ++ [(L.getD i.toNat 0)]), .row 3 vr l, .box b26 29 [vr, vr2], .box b4 29 [(.slice none 0 0), (.slice none 0 0)], .box b2 24 [.int .i64 n, ve]] := H.drop 0
        refine q_list 5 1 [] [(2, .pointer (some ⟨b2, 0, none⟩)), (4, .pointer (some ⟨b4, 0, none⟩)), (7, .pointer (some ⟨b26, 0, none⟩)), (9, .int .i64 (L.getD i.toNat 0)), (23, vl), (24, .int .i64 (L.length : Int)), (25, .int .i64 i), (33, v44), (34, .pointer (some ⟨b26, 0 + 1, none⟩))] ((0 < Try.prog.cellsOf 27) ∧ True) hA H ⟨by decide +kernel, trivial⟩ fun a w46 hA H hG => ?_
        refine list_at 6 ?_; refine q_store 6 27 (.tmp 34) (.tmp 33) 2 b26 (0 + 1) 29 [vr, vr2] [v44] [vr, v44] v44 [(2, .pointer (some ⟨b2, 0, none⟩)), (4, .pointer (some ⟨b4, 0, none⟩)), (7, .pointer (some ⟨b26, 0, none⟩)), (9, .int .i64 (L.getD i.toNat 0)), (23, vl), (24, .int .i64 (L.length : Int)), (25, .int .i64 i)] hA H rfl (one_cells (rd_one (H.out 0 rfl))) (Nat.le_of_ble_eq_true (by kernel_rfl)) rfl (fun v hv => by simp only [List.mem_cons, List.not_mem_nil, or_false] at hv; rcases hv with rfl; exact (rd_one (H.out 0 rfl))) fun a w47 H hA hG => ?_
        replace H : Fr _ _ _ [.row 3 v44 (l2 ++ [(L.getD i.toNat 0)]), .row 3 vr l, .box b26 29 [vr, v44], .box b4 29 [(.slice none 0 0), (.slice none 0 0)], .box b2 24 [.int .i64 n, ve]] := H
        refine list_end ?_
        refine hK40 _ _ ?_
        have H0 := H
        have hM0 := H0.keeps vr.ownBlock (.inr ⟨_, List.mem_of_getElem? (i := 1) rfl, rfl⟩)
        refine region_mix (But w47 vr.ownBlock) [0, 1, 2, 3, 4, 5, 6, 7, 8, 9, 10, 11, 12, 13, 14, 15] 18 ?_
        replace H := H.drawn; have hD := But.drew w47 vr.ownBlock
        generalize ({ w47 with drawn := w47.drawn + 1 } : World) = w48 at H hD ⊢
        refine m_take (n := 4) [0, 1, 2, 3, 4, 5, 6, 7, 8, 9, 10, 11, 12, 13] #[true, true, true, true, true, true, true, true, true, true, true, true, true, true, false, false, false, false] [(36, vr), (38, ve), (42, .int .i64 ((E.getD (L.getD i.toNat 0).toNat (0, 0)).1)), (44, ve), (48, .int .i64 ((E.getD (L.getD i.toNat 0).toNat (0, 0)).2))] [(2, .pointer (some ⟨b2, 0, none⟩)), (4, .pointer (some ⟨b4, 0, none⟩)), (7, .pointer (some ⟨b26, 0, none⟩)), (23, vl), (24, .int .i64 (L.length : Int)), (25, .int .i64 i), (36, vr), (42, .int .i64 ((E.getD (L.getD i.toNat 0).toNat (0, 0)).1)), (48, .int .i64 ((E.getD (L.getD i.toNat 0).toNat (0, 0)).2))] ((0 < Try.prog.cellsOf 27) ∧ (CellOk (But w47 vr.ownBlock) b26 (0 + 0) (vr)) ∧ (0 < Try.prog.cellsOf 22) ∧ (CellOk (But w47 vr.ownBlock) b2 (0 + 1) (ve)) ∧ (True) ∧ ((Try.prog.info? 99).isSome = true ∧ IdxOk ve (L.getD i.toNat 0)) ∧ (0 < Try.prog.cellsOf 3) ∧ (CellOk (But w47 vr.ownBlock) (hdB ve) (hdO ve + (L.getD i.toNat 0).toNat * 2 + 0) (.int .i64 ((E.getD (L.getD i.toNat 0).toNat (0, 0)).1))) ∧ (0 < Try.prog.cellsOf 22) ∧ (CellOk (But w47 vr.ownBlock) b2 (0 + 1) (ve)) ∧ (True) ∧ ((Try.prog.info? 99).isSome = true ∧ IdxOk ve (L.getD i.toNat 0)) ∧ (0 < Try.prog.cellsOf 3) ∧ (CellOk (But w47 vr.ownBlock) (hdB ve) (hdO ve + (L.getD i.toNat 0).toNat * 2 + 1) (.int .i64 ((E.getD (L.getD i.toNat 0).toNat (0, 0)).2))) ∧ True) hA hD ⟨by decide +kernel, by exact box_cellC (box_atC H0 vr.ownBlock 2 rfl (H0.apart 2 1 (by decide) rfl rfl rfl)) 0, by decide +kernel, by exact box_cellC (box_atC H0 vr.ownBlock 4 rfl (H0.apart 4 1 (by decide) rfl rfl rfl)) 1, trivial, ⟨by kernel_rfl, by exact idx_ok (H0.argT hE) (by omega) (by omega)⟩, by decide +kernel, by exact cell_flatC hM0 (i := (L.getD i.toNat 0)) (H0.argT hE) (by omega) (by omega) (0, 0) 0, by decide +kernel, by exact box_cellC (box_atC H0 vr.ownBlock 4 rfl (H0.apart 4 1 (by decide) rfl rfl rfl)) 1, trivial, ⟨by kernel_rfl, by exact idx_ok (H0.argT hE) (by omega) (by omega)⟩, by decide +kernel, by exact cell_flatC hM0 (i := (L.getD i.toNat 0)) (H0.argT hE) (by omega) (by omega) (0, 0) 1, trivial⟩ fun a hA => ?_
        refine m_one 14 ?_; refine q_lit 14 49 27 2 #[(0, .tmp 42), (1, .tmp 48)] 3 [(0, .int .i64 ((E.getD (L.getD i.toNat 0).toNat (0, 0)).1)), (1, .int .i64 ((E.getD (L.getD i.toNat 0).toNat (0, 0)).2))] [.int .i64 ((E.getD (L.getD i.toNat 0).toNat (0, 0)).1), .int .i64 ((E.getD (L.getD i.toNat 0).toNat (0, 0)).2)] [(2, .pointer (some ⟨b2, 0, none⟩)), (4, .pointer (some ⟨b4, 0, none⟩)), (7, .pointer (some ⟨b26, 0, none⟩)), (23, vl), (24, .int .i64 (L.length : Int)), (25, .int .i64 i), (36, vr)] hA H fun b49 a w50 H hA hG hge_b49 => ?_
        replace hge_b49 := Nat.le_trans hD.1 hge_b49
        replace hD := hD.below hG
        refine ⟨fun _ => hD, ?_⟩
        refine m_one 15 ?_; refine q_push 15 50 (.tmp 36) (.tmp 49) 2 0 b49 2 2 vr l [(E.getD (L.getD i.toNat 0).toNat (0, 0)).1, (E.getD (L.getD i.toNat 0).toNat (0, 0)).2] [.int .i64 ((E.getD (L.getD i.toNat 0).toNat (0, 0)).1), .int .i64 ((E.getD (L.getD i.toNat 0).toNat (0, 0)).2)] [(2, .pointer (some ⟨b2, 0, none⟩)), (4, .pointer (some ⟨b4, 0, none⟩)), (7, .pointer (some ⟨b26, 0, none⟩)), (23, vl), (24, .int .i64 (L.length : Int)), (25, .int .i64 i)] hA H Try.E27 rfl rfl (by exact ((RowRd.single (α := Int) rfl).append (RowRd.single (α := Int) rfl))) rfl (by simp only [List.length_cons, List.length_nil, List.length_append]; omega) (by decide) fun v51 a w52 H hA hG => ?_
        replace H : Fr _ _ _ [.row 3 v44 (l2 ++ [(L.getD i.toNat 0)]), .row 3 v51 (l ++ [(E.getD (L.getD i.toNat 0).toNat (0, 0)).1, (E.getD (L.getD i.toNat 0).toNat (0, 0)).2]), .box b26 29 [vr, v44], .box b4 29 [(.slice none 0 0), (.slice none 0 0)], .box b2 24 [.int .i64 n, ve]] := H.drop 0
        replace hD := hD.grown hG (fun b hb => .inl hb.symm)
        refine ⟨fun _ => hD, ?_⟩
        refine m_one 16 ?_; refine q_one 16 [] [(2, .pointer (some ⟨b2, 0, none⟩)), (4, .pointer (some ⟨b4, 0, none⟩)), (7, .pointer (some ⟨b26, 0, none⟩)), (23, vl), (24, .int .i64 (L.length : Int)), (25, .int .i64 i), (50, v51), (51, .pointer (some ⟨b26, 0 + 0, none⟩))] ((0 < Try.prog.cellsOf 27) ∧ True) hA H ⟨by decide +kernel, trivial⟩ fun a w53 H hA hG => ?_
        refine ⟨fun h => absurd h (by decide), ?_⟩
        refine m_one 17 ?_; refine q_store 17 27 (.tmp 51) (.tmp 50) 2 b26 (0 + 0) 29 [vr, v44] [v51] [v51, v44] v51 [(2, .pointer (some ⟨b2, 0, none⟩)), (4, .pointer (some ⟨b4, 0, none⟩)), (7, .pointer (some ⟨b26, 0, none⟩)), (23, vl), (24, .int .i64 (L.length : Int)), (25, .int .i64 i)] hA H rfl (one_cells (rd_one (H.out 1 rfl))) (Nat.le_of_ble_eq_true (by kernel_rfl)) rfl (fun v hv => by simp only [List.mem_cons, List.not_mem_nil, or_false] at hv; rcases hv with rfl; exact (rd_one (H.out 1 rfl))) fun a w54 H hA hG => ?_
        replace H : Fr _ _ _ [.row 3 v44 (l2 ++ [(L.getD i.toNat 0)]), .row 3 v51 (l ++ [(E.getD (L.getD i.toNat 0).toNat (0, 0)).1, (E.getD (L.getD i.toNat 0).toNat (0, 0)).2]), .box b26 29 [v51, v44], .box b4 29 [(.slice none 0 0), (.slice none 0 0)], .box b2 24 [.int .i64 n, ve]] := H
        refine ⟨fun h => absurd h (by decide), ?_⟩
        refine m_end ?_
        refine hK37 _ _ ?_
        refine q_reg [] [(2, .pointer (some ⟨b2, 0, none⟩)), (4, .pointer (some ⟨b4, 0, none⟩)), (7, .pointer (some ⟨b26, 0, none⟩)), (23, vl), (24, .int .i64 (L.length : Int)), (25, .int .i64 (i + 1))] ((InR .i64 (i + 1)) ∧ (True) ∧ True) hA H ⟨⟨by omega, by omega⟩, trivial, trivial⟩ fun a w55 hA H hG => ?_
        refine ⟨(i + 1, v51, v44, l ++ [(E.getD (L.getD i.toNat 0).toNat (0, 0)).1, (E.getD (L.getD i.toNat 0).toNat (0, 0)).2], l2 ++ [(L.getD i.toNat 0)]), ⟨env_sub _ hA, ⟨_, H⟩, ?_⟩, ?_⟩
        · (try dsimp only); exact ⟨by omega, by omega, by (try simp only [List.length_append, List.length_cons, List.length_nil]); omega, by (try simp only [List.length_append, List.length_cons, List.length_nil]); omega, by rw [endsL_round h0 (by omega)] at hi; (try simp only [List.append_assoc] at hi ⊢); exact hi, by rw [drop_round h0 (by omega)] at hi2; simpa using hi2⟩
        · (try dsimp only); omega
      · have hhb36 := of_decide_eq_false hb36
        refine go_exit 0 ?_
        refine hK28 _ _ ?_
        refine go_seq fun K56 hK56 => ?_
        rw [endsL_end (by omega), List.append_nil] at hi; rw [drop_end (by omega), List.append_nil] at hi2
        have hl1 : l.length ≤ 10000 := by omega
        refine region_list ?_
        refine q_list 0 2 [(54, vr)] [(4, .pointer (some ⟨b4, 0, none⟩)), (7, .pointer (some ⟨b26, 0, none⟩)), (54, vr)] ((0 < Try.prog.cellsOf 27) ∧ (CellOk (On w34) b26 (0 + 0) (vr)) ∧ True) hA H ⟨by decide +kernel, by exact box_cell H 2 rfl 0, trivial⟩ fun a w57 hA H hG => ?_
        refine list_at 2 ?_; refine q_any 2 55 74 #[.tmp 54] #[27] [vr] _ [(4, .pointer (some ⟨b4, 0, none⟩)), (7, .pointer (some ⟨b26, 0, none⟩))] hA (by exact sort_row H 1 rfl (by first | omega | (simp only [List.length_mergeSort]; omega) | (simp only [List.length_cons]; omega))) fun v58 a w59 hR60 hA => ?_
        obtain ⟨H, hG⟩ := hR60
        replace H : Fr _ _ _ [.row 3 vr2 l2, .row 3 vr (sortL l), .box b26 29 [vr, vr2], .box b4 29 [(.slice none 0 0), (.slice none 0 0)], .box b2 24 [.int .i64 n, ve]] := H
        refine list_end ?_
        refine hK56 _ _ ?_
        refine go_seq fun K61 hK61 => ?_
        refine region_list ?_
        refine q_list 0 2 [(57, vr)] [(4, .pointer (some ⟨b4, 0, none⟩)), (7, .pointer (some ⟨b26, 0, none⟩)), (57, vr)] ((0 < Try.prog.cellsOf 27) ∧ (CellOk (On w59) b26 (0 + 0) (vr)) ∧ True) hA H ⟨by decide +kernel, by exact box_cell H 2 rfl 0, trivial⟩ fun a w62 hA H hG => ?_
        refine list_at 2 ?_; refine q_any 2 58 75 #[.tmp 57] #[27] [vr] _ [(4, .pointer (some ⟨b4, 0, none⟩)), (7, .pointer (some ⟨b26, 0, none⟩))] hA (by exact compact_row H 1 rfl (by first | omega | (simp only [List.length_mergeSort]; omega) | (simp only [List.length_cons]; omega))) fun v63 a w64 hR65 hA => ?_
        obtain ⟨H, hG⟩ := hR65
        replace H : Fr _ _ _ [.row 3 vr2 l2, .row 3 v63 (Lib.compact (sortL l)), .box b26 29 [vr, vr2], .box b4 29 [(.slice none 0 0), (.slice none 0 0)], .box b2 24 [.int .i64 n, ve]] := H
        refine q_list 3 1 [] [(4, .pointer (some ⟨b4, 0, none⟩)), (7, .pointer (some ⟨b26, 0, none⟩)), (58, v63), (59, .pointer (some ⟨b26, 0 + 0, none⟩))] ((0 < Try.prog.cellsOf 27) ∧ True) hA H ⟨by decide +kernel, trivial⟩ fun a w66 hA H hG => ?_
        refine list_at 4 ?_; refine q_store 4 27 (.tmp 59) (.tmp 58) 2 b26 (0 + 0) 29 [vr, vr2] [v63] [v63, vr2] v63 [(4, .pointer (some ⟨b4, 0, none⟩)), (7, .pointer (some ⟨b26, 0, none⟩))] hA H rfl (one_cells (rd_one (H.out 1 rfl))) (Nat.le_of_ble_eq_true (by kernel_rfl)) rfl (fun v hv => by simp only [List.mem_cons, List.not_mem_nil, or_false] at hv; rcases hv with rfl; exact (rd_one (H.out 1 rfl))) fun a w67 H hA hG => ?_
        replace H : Fr _ _ _ [.row 3 vr2 l2, .row 3 v63 (Lib.compact (sortL l)), .box b26 29 [v63, vr2], .box b4 29 [(.slice none 0 0), (.slice none 0 0)], .box b2 24 [.int .i64 n, ve]] := H
        refine list_end ?_
        refine hK61 _ _ ?_
        refine go_seq fun K68 hK68 => ?_
        refine region_list ?_
        refine q_list 0 1 [(60, .agg #[v63, vr2])] [(4, .pointer (some ⟨b4, 0, none⟩)), (60, .agg #[v63, vr2])] (((Try.prog.info? 29).isSome = true ∧ RowOk (On w67) b26 (0) (Try.prog.cellsOf 29) #[v63, vr2]) ∧ True) hA H ⟨⟨by kernel_rfl, by exact box_row H 2 rfl 0 2⟩, trivial⟩ fun a w69 hA H hG => ?_
        refine list_at 1 ?_; refine q_store 1 29 (.tmp 4) (.tmp 60) 3 b4 (0) 29 [(.slice none 0 0), (.slice none 0 0)] [v63, vr2] [v63, vr2] (.agg #[v63, vr2]) [(4, .pointer (some ⟨b4, 0, none⟩))] hA H rfl rfl (Nat.le_of_ble_eq_true (by kernel_rfl)) rfl (fun v hv => by simp only [List.mem_cons, List.not_mem_nil, or_false] at hv; rcases hv with rfl | rfl; exact (rd_one (H.out 1 rfl)); exact (rd_one (H.out 0 rfl))) fun a w70 H hA hG => ?_
        replace H : Fr _ _ _ [.row 3 vr2 l2, .row 3 v63 (Lib.compact (sortL l)), .box b26 29 [v63, vr2], .box b4 29 [v63, vr2], .box b2 24 [.int .i64 n, ve]] := H
        refine q_list 2 1 [] [(4, .pointer (some ⟨b4, 0, none⟩)), (5, .int .i64 0)] ((True) ∧ True) hA H ⟨trivial, trivial⟩ fun a w71 hA H hG => ?_
        refine list_end ?_
        refine hK68 _ _ ?_
        refine go_ret_ ?_
        refine ret_cell2 4 5 29 3 b4 29 [v63, vr2] #[v63, vr2] (.int .i64 0) hA H rfl ?_ (ht := ⟨_, Try.underlying29⟩)
        have e1 : spanE n E L = ((Lib.compact (sortL (endsL E L)), L), 0) := by unfold spanE; rw [if_neg (by omega), if_neg (fun q => q hr1)]
        have hV2 := (H.give 1 rfl); have hE2 := (H.give 0 rfl); rw [hi] at hV2; rw [hi2] at hE2
        rw [e1]; exact ⟨_, rfl, ⟨_, rfl, rd_two hV2 hE2⟩, H.below⟩

set_option maxRecDepth 100000 in
set_option maxHeartbeats 1000000 in
theorem rdarts_any (n : Int) (ve : Value) (E : List (Int × Int)) (vv vl : Value) (V L : List Int) (x : Int) (o : Orig) (hn : -9223372036854775808 ≤ n ∧ n ≤ 9223372036854775807) (hE : Rd (· < o.w.heap.size) o.w ve E) (hV : Rd (· < o.w.heap.size) o.w vv V) (hL : Rd (· < o.w.heap.size) o.w vl L) (hx : risesP L (E.length : Int)) (hs : (E.length : Int) ≤ 100000) :
  Calls Try.prog 37 [.agg #[.int .i64 n, ve], .agg #[vv, vl], .int .i64 x].toArray o.w (Giv o (fun S v w' => Rd S w' v (dartsL E L x))) := by
  have hl9 := rises_len hx (by omega)
  refine enter Try.f37 45 Try.func37 fun a hA => ?_
  replace hA := env_sub [(0, .agg #[.int .i64 n, ve]), (1, .agg #[vv, vl]), (2, .int .i64 x)] hA
  have H := Fr.start o
  refine go_seq fun K1 hK1 => ?_
  refine region_list ?_
  refine list_at 0 ?_; refine q_box 0 3 24 (.tmp 0) (.agg #[.int .i64 n, ve]) [.int .i64 n, ve] [(1, .agg #[vv, vl]), (2, .int .i64 x)] hA H fun b2 a w3 H hA hG hge_b2 => ?_
  clear hge_b2
  refine list_at 1 ?_; refine q_box 1 4 29 (.tmp 1) (.agg #[vv, vl]) [vv, vl] [(2, .int .i64 x), (3, .pointer (some ⟨b2, 0, none⟩))] hA H fun b4 a w5 H hA hG hge_b4 => ?_
  clear hge_b4
  refine q_list 2 1 [] [(2, .int .i64 x), (3, .pointer (some ⟨b2, 0, none⟩)), (4, .pointer (some ⟨b4, 0, none⟩))] ((True) ∧ True) hA H ⟨trivial, trivial⟩ fun a w6 hA H hG => ?_
  refine list_end ?_
  refine hK1 _ _ ?_
  refine go_seq fun K7 hK7 => ?_
  refine q_reg [] [(2, .int .i64 x), (3, .pointer (some ⟨b2, 0, none⟩)), (4, .pointer (some ⟨b4, 0, none⟩)), (7, (.slice none 0 0))] ((True) ∧ True) hA H ⟨trivial, trivial⟩ fun a w8 hA H hG => ?_
  refine hK7 _ _ ?_
  refine go_seq fun K9 hK9 => ?_
  refine go_seq fun K10 hK10 => ?_
  refine q_reg [] [(2, .int .i64 x), (3, .pointer (some ⟨b2, 0, none⟩)), (4, .pointer (some ⟨b4, 0, none⟩)), (7, (.slice none 0 0)), (8, .int .i64 0)] ((True) ∧ True) hA H ⟨trivial, trivial⟩ fun a w11 hA H hG => ?_
  refine hK10 _ _ ?_
  refine go_block 0 ?_
  replace H := H.newRow (α := Int) 3
  refine go_loop_ (Int × Value × List Int) (fun x_ a W => (fun (i : Int) (vr : Value) (l : List Int) => EnvOk 45 a (keepEnv [(2, .int .i64 x), (3, .pointer (some ⟨b2, 0, none⟩)), (4, .pointer (some ⟨b4, 0, none⟩)), (7, vr), (8, .int .i64 i)]) ∧ (∃ S, Fr o W S [.row 3 vr l, .box b4 29 [vv, vl], .box b2 24 [.int .i64 n, ve]]) ∧ 0 ≤ i ∧ (l.length : Int) ≤ 2 * i ∧ l ++ dartsL E (L.drop i.toNat) x = dartsL E L x) x_.1 x_.2.1 x_.2.2) (fun x_ => (fun (i : Int) (vr : Value) (l : List Int) => ((L.length : Int) - i).toNat) x_.1 x_.2.1 x_.2.2) (0, .slice none 0 0, []) ?_ (fun x_ a w13 hI => ?_)
  · (try dsimp only); exact ⟨env_sub _ hA, ⟨_, H⟩, by omega, by simp, by simp⟩
  obtain ⟨i, vr, l⟩ := x_
  obtain ⟨hA, ⟨S, H⟩, h0, h1, hi⟩ := hI
  try dsimp only at h0 h1 hi
  refine go_seq fun K14 hK14 => ?_
  refine go_seq fun K15 hK15 => ?_
  refine q_reg [(12, vl), (13, .int .i64 (L.length : Int))] [(2, .int .i64 x), (3, .pointer (some ⟨b2, 0, none⟩)), (4, .pointer (some ⟨b4, 0, none⟩)), (7, vr), (8, .int .i64 i), (14, .bool (decide (i < (L.length : Int))))] ((True) ∧ (0 < Try.prog.cellsOf 27) ∧ (CellOk (On w13) b4 (0 + 1) (vl)) ∧ (LenOk vl (L.length : Int)) ∧ (True) ∧ True) hA H ⟨trivial, by decide +kernel, by exact box_cell H 1 rfl 1, by exact len_ok (H.arg hL), trivial, trivial⟩ fun a w16 hA H hG => ?_
  refine hK15 _ _ ?_
  refine go_cond hA (.tmp 14) (decide (i < (L.length : Int))) (fun hb17 => ?_) (fun hb17 => ?_)
  · have hhb17 := of_decide_eq_true hb17
    refine go_skip ?_
    refine hK14 _ _ ?_
    refine go_seq fun K18 hK18 => ?_
    refine go_block 1 ?_
    refine go_seq fun K19 hK19 => ?_
    have hx9 := hx i.toNat (by omega)
    refine q_reg [] [(2, .int .i64 x), (3, .pointer (some ⟨b2, 0, none⟩)), (4, .pointer (some ⟨b4, 0, none⟩)), (7, vr), (8, .int .i64 i), (9, .int .i64 0)] ((True) ∧ True) hA H ⟨trivial, trivial⟩ fun a w20 hA H hG => ?_
    refine hK19 _ _ ?_
    refine go_block 2 ?_
    refine go_loop_ (Int × Value × List Int) (fun x_ a W => (fun (s : Int) (vr2 : Value) (l2 : List Int) => EnvOk 45 a (keepEnv [(2, .int .i64 x), (3, .pointer (some ⟨b2, 0, none⟩)), (4, .pointer (some ⟨b4, 0, none⟩)), (7, vr2), (8, .int .i64 i), (9, .int .i64 s)]) ∧ (∃ S, Fr o W S [.row 3 vr2 l2, .box b4 29 [vv, vl], .box b2 24 [.int .i64 n, ve]]) ∧ 0 ≤ s ∧ s ≤ 2 ∧ (l2.length : Int) ≤ 2 * i + s ∧ l2 ++ (dartsFrom E (L.getD i.toNat 0) x s ++ dartsL E (L.drop (i + 1).toNat) x) = dartsL E L x) x_.1 x_.2.1 x_.2.2) (fun x_ => (fun (s : Int) (vr2 : Value) (l2 : List Int) => (2 - s).toNat) x_.1 x_.2.1 x_.2.2) (0, vr, l) ?_ (fun x_ a w22 hI => ?_)
    · (try dsimp only); exact ⟨env_sub _ hA, ⟨_, H⟩, by omega, by omega, by omega, by rw [← dartsL_round h0 (by omega)]; exact hi⟩
    obtain ⟨s, vr2, l2⟩ := x_
    obtain ⟨hA, ⟨S, H⟩, s0, s1, s2, hj⟩ := hI
    try dsimp only at s0 s1 s2 hj
    refine go_seq fun K23 hK23 => ?_
    refine go_seq fun K24 hK24 => ?_
    refine q_reg [] [(2, .int .i64 x), (3, .pointer (some ⟨b2, 0, none⟩)), (4, .pointer (some ⟨b4, 0, none⟩)), (7, vr2), (8, .int .i64 i), (9, .int .i64 s), (18, .bool (decide (s < 2)))] ((True) ∧ (True) ∧ True) hA H ⟨trivial, trivial, trivial⟩ fun a w25 hA H hG => ?_
    refine hK24 _ _ ?_
    refine go_cond hA (.tmp 18) (decide (s < 2)) (fun hb26 => ?_) (fun hb26 => ?_)
    · have hhb26 := of_decide_eq_true hb26
      refine go_skip ?_
      refine hK23 _ _ ?_
      refine go_seq fun K27 hK27 => ?_
      refine go_block 3 ?_
      refine go_seq fun K28 hK28 => ?_
      refine q_draw [(21, .agg #[.int .i64 n, ve]), (23, vl), (26, .int .i64 (L.getD i.toNat 0)), (30, .int .i64 (tailE E ((2 * (L.getD i.toNat 0)) + s)))] [(2, .int .i64 x), (3, .pointer (some ⟨b2, 0, none⟩)), (4, .pointer (some ⟨b4, 0, none⟩)), (7, vr2), (8, .int .i64 i), (9, .int .i64 s), (32, .bool (decide (tailE E ((2 * (L.getD i.toNat 0)) + s) = x)))] (((Try.prog.info? 24).isSome = true ∧ RowOk (On w25) b2 (0) (Try.prog.cellsOf 24) #[.int .i64 n, ve]) ∧ (0 < Try.prog.cellsOf 27) ∧ (CellOk (On w25) b4 (0 + 1) (vl)) ∧ (True) ∧ ((Try.prog.info? 3).isSome = true ∧ IdxOk vl i) ∧ (CellOk (On w25) (hdB vl) (hdO vl + i.toNat * 1) (.int .i64 (L.getD i.toNat 0))) ∧ (InR .i64 (2 * (L.getD i.toNat 0))) ∧ (True) ∧ (InR .i64 ((2 * (L.getD i.toNat 0)) + s)) ∧ (Callable Try.prog 34 ∧ CallOk Try.prog (On w25) 34 [.agg #[.int .i64 n, ve], .int .i64 ((2 * (L.getD i.toNat 0)) + s)].toArray (.int .i64 (tailE E ((2 * (L.getD i.toNat 0)) + s)))) ∧ (True) ∧ (True) ∧ True) hA H ⟨⟨by kernel_rfl, by exact box_row H 2 rfl 0 2⟩, by decide +kernel, by exact box_cell H 1 rfl 1, trivial, ⟨by kernel_rfl, by exact idx_ok (H.arg hL) (by omega) (by omega)⟩, by exact cell_flat (i := i) (H.arg hL) (by omega) (by omega) 0 0, ⟨by omega, by omega⟩, trivial, ⟨by omega, by omega⟩, ⟨callable_of, callOk_of fun w hw => by exact tail_any n ve E ((2 * (L.getD i.toNat 0)) + s) w (by omega) (((H.on hw).arg hE)) (by omega) (by omega) (by omega)⟩, trivial, trivial, trivial⟩ fun a w29 hA H hG => ?_
      refine hK28 _ _ ?_
      refine go_cond hA (.tmp 32) (decide (tailE E ((2 * (L.getD i.toNat 0)) + s) = x)) (fun hb30 => ?_) (fun hb30 => ?_)
      · have hhb30 := of_decide_eq_true hb30
        refine region_list ?_
        refine q_list 0 9 [(35, vl), (38, .int .i64 (L.getD i.toNat 0))] [(2, .int .i64 x), (3, .pointer (some ⟨b2, 0, none⟩)), (4, .pointer (some ⟨b4, 0, none⟩)), (8, .int .i64 i), (9, .int .i64 s), (33, vr2), (41, .int .i64 ((2 * (L.getD i.toNat 0)) + s))] ((True) ∧ (0 < Try.prog.cellsOf 27) ∧ (CellOk (On w29) b4 (0 + 1) (vl)) ∧ (True) ∧ ((Try.prog.info? 3).isSome = true ∧ IdxOk vl i) ∧ (CellOk (On w29) (hdB vl) (hdO vl + i.toNat * 1) (.int .i64 (L.getD i.toNat 0))) ∧ (InR .i64 (2 * (L.getD i.toNat 0))) ∧ (True) ∧ (InR .i64 ((2 * (L.getD i.toNat 0)) + s)) ∧ True) hA H ⟨trivial, by decide +kernel, by exact box_cell H 1 rfl 1, trivial, ⟨by kernel_rfl, by exact idx_ok (H.arg hL) (by omega) (by omega)⟩, by exact cell_flat (i := i) (H.arg hL) (by omega) (by omega) 0 0, ⟨by omega, by omega⟩, trivial, ⟨by omega, by omega⟩, trivial⟩ fun a w31 hA H hG => ?_
        refine list_at 9 ?_; refine q_lit 9 42 27 1 #[(0, .tmp 41)] 3 [(0, .int .i64 ((2 * (L.getD i.toNat 0)) + s))] [.int .i64 ((2 * (L.getD i.toNat 0)) + s)] [(2, .int .i64 x), (3, .pointer (some ⟨b2, 0, none⟩)), (4, .pointer (some ⟨b4, 0, none⟩)), (8, .int .i64 i), (9, .int .i64 s), (33, vr2)] hA H fun b32 a w33 H hA hG hge_b32 => ?_
        clear hge_b32
        refine list_at 10 ?_; refine q_push 10 43 (.tmp 33) (.tmp 42) 1 0 b32 1 1 vr2 l2 [(2 * (L.getD i.toNat 0)) + s] [.int .i64 ((2 * (L.getD i.toNat 0)) + s)] [(2, .int .i64 x), (3, .pointer (some ⟨b2, 0, none⟩)), (4, .pointer (some ⟨b4, 0, none⟩)), (8, .int .i64 i), (9, .int .i64 s)] hA H Try.E27 rfl rfl (by exact (RowRd.single (α := Int) rfl)) rfl (by simp only [List.length_cons, List.length_nil, List.length_append]; omega) (by decide) fun v34 a w35 H hA hG => ?_
        replace H : Fr _ _ _ [.row 3 v34 (l2 ++ [(2 * (L.getD i.toNat 0)) + s]), .box b4 29 [vv, vl], .box b2 24 [.int .i64 n, ve]] := H.drop 0
        refine q_list 11 1 [] [(2, .int .i64 x), (3, .pointer (some ⟨b2, 0, none⟩)), (4, .pointer (some ⟨b4, 0, none⟩)), (7, v34), (8, .int .i64 i), (9, .int .i64 s)] ((True) ∧ True) hA H ⟨trivial, trivial⟩ fun a w36 hA H hG => ?_
        refine list_end ?_
        refine hK27 _ _ ?_
        refine q_reg [] [(2, .int .i64 x), (3, .pointer (some ⟨b2, 0, none⟩)), (4, .pointer (some ⟨b4, 0, none⟩)), (7, v34), (8, .int .i64 i), (9, .int .i64 (s + 1))] ((True) ∧ (InR .i64 (s + 1)) ∧ (True) ∧ True) hA H ⟨trivial, ⟨by omega, by omega⟩, trivial, trivial⟩ fun a w37 hA H hG => ?_
        refine ⟨(s + 1, v34, l2 ++ [(2 * (L.getD i.toNat 0)) + s]), ⟨env_sub _ hA, ⟨_, H⟩, ?_⟩, ?_⟩
        · (try dsimp only); refine ⟨by omega, by omega, by (try simp only [List.length_append, List.length_cons, List.length_nil]); omega, by rw [dartsFrom_round s0 (by omega)] at hj; simp only [hhb30, if_true, if_false, List.nil_append] at hj; (try simp only [List.append_assoc] at hj ⊢); exact hj⟩
        · (try dsimp only); omega
      · have hhb30 := of_decide_eq_false hb30
        refine go_skip ?_
        refine hK27 _ _ ?_
        refine q_reg [] [(2, .int .i64 x), (3, .pointer (some ⟨b2, 0, none⟩)), (4, .pointer (some ⟨b4, 0, none⟩)), (7, vr2), (8, .int .i64 i), (9, .int .i64 (s + 1))] ((True) ∧ (InR .i64 (s + 1)) ∧ (True) ∧ True) hA H ⟨trivial, ⟨by omega, by omega⟩, trivial, trivial⟩ fun a w38 hA H hG => ?_
        refine ⟨(s + 1, vr2, l2), ⟨env_sub _ hA, ⟨_, H⟩, ?_⟩, ?_⟩
        · (try dsimp only); refine ⟨by omega, by omega, by (try simp only [List.length_append, List.length_cons, List.length_nil]); omega, by rw [dartsFrom_round s0 (by omega)] at hj; simp only [hhb30, if_true, if_false, List.nil_append] at hj; (try simp only [List.append_assoc] at hj ⊢); exact hj⟩
        · (try dsimp only); omega
    · have hhb26 := of_decide_eq_false hb26
      refine go_exit 2 ?_
      refine hK18 _ _ ?_
      refine q_reg [] [(2, .int .i64 x), (3, .pointer (some ⟨b2, 0, none⟩)), (4, .pointer (some ⟨b4, 0, none⟩)), (7, vr2), (8, .int .i64 (i + 1))] ((True) ∧ (InR .i64 (i + 1)) ∧ (True) ∧ True) hA H ⟨trivial, ⟨by omega, by omega⟩, trivial, trivial⟩ fun a w39 hA H hG => ?_
      refine ⟨(i + 1, vr2, l2), ⟨env_sub _ hA, ⟨_, H⟩, ?_⟩, ?_⟩
      · (try dsimp only); exact ⟨by omega, by omega, by rw [dartsFrom_end (by omega), List.nil_append] at hj; exact hj⟩
      · (try dsimp only); omega
  · have hhb17 := of_decide_eq_false hb17
    refine go_exit 0 ?_
    refine hK9 _ _ ?_
    refine go_seq fun K40 hK40 => ?_
    refine q_reg [] [(6, vr)] ((True) ∧ (True) ∧ True) hA H ⟨trivial, trivial, trivial⟩ fun a w41 hA H hG => ?_
    refine hK40 _ _ ?_
    refine go_ret_ ?_
    refine ret_one 6 vr hA ?_
    have ho := (H.give 0 rfl)
    rw [dartsL_end (by omega), List.append_nil] at hi; subst hi; exact ⟨_, rfl, ho, H.below⟩

set_option maxRecDepth 100000 in
set_option maxHeartbeats 1000000 in
theorem rspan_any (n : Int) (ve : Value) (E : List (Int × Int)) (vl : Value) (L : List Int) (o : Orig) (hn : -9223372036854775808 ≤ n ∧ n ≤ 9223372036854775807) (hE : Rd (· < o.w.heap.size) o.w ve E) (hL : Rd (· < o.w.heap.size) o.w vl L) (hx : risesP L (E.length : Int)) (hs : (E.length : Int) ≤ 100000) (hs2 : n ≤ 100000) :
  Calls Try.prog 30 [.agg #[.int .i64 n, ve], vl].toArray o.w (Giv o (fun S v w' => Rd S w' v ((touchL E L n, L)))) := by
  have hl9 := rises_len hx (by omega)
  refine enter Try.f30 56 Try.func30 fun a hA => ?_
  replace hA := env_sub [(0, .agg #[.int .i64 n, ve]), (1, vl)] hA
  have H := Fr.start o
  refine go_seq fun K1 hK1 => ?_
  refine region_list ?_
  refine list_at 0 ?_; refine q_box 0 2 24 (.tmp 0) (.agg #[.int .i64 n, ve]) [.int .i64 n, ve] [(1, vl)] hA H fun b2 a w3 H hA hG hge_b2 => ?_
  clear hge_b2
  refine list_at 1 ?_; refine q_alloc 1 4 29 [(.slice none 0 0), (.slice none 0 0)] [(1, vl), (2, .pointer (some ⟨b2, 0, none⟩))] hA H fun b4 a w5 H hA hG hge_b4 => ?_
  clear hge_b4
  refine list_end ?_
  refine hK1 _ _ ?_
  refine go_seq fun K6 hK6 => ?_
  refine region_list ?_
  refine list_at 0 ?_; refine q_alloc 0 5 29 [(.slice none 0 0), (.slice none 0 0)] [(1, vl), (2, .pointer (some ⟨b2, 0, none⟩)), (4, .pointer (some ⟨b4, 0, none⟩))] hA H fun b7 a w8 H hA hG hge_b7 => ?_
  clear hge_b7
  replace H := H.newRow (α := Int) 3
  replace H := H.newRow (α := Int) 3
  refine list_end ?_
  refine hK6 _ _ ?_
  refine go_seq fun K9 hK9 => ?_
  refine region_list ?_
  refine q_list 0 3 [(9, (.slice none 0 0))] [(1, vl), (2, .pointer (some ⟨b2, 0, none⟩)), (4, .pointer (some ⟨b4, 0, none⟩)), (5, .pointer (some ⟨b7, 0, none⟩)), (9, (.slice none 0 0)), (10, vl)] ((0 < Try.prog.cellsOf 27) ∧ (CellOk (On w8) b7 (0 + 1) ((.slice none 0 0))) ∧ (True) ∧ True) hA H ⟨by decide +kernel, by exact box_cell H 2 rfl 1, trivial, trivial⟩ fun a w10 hA H hG => ?_
  refine list_at 3 ?_; refine q_pushS 3 11 (.tmp 9) (.tmp 10) 0 (.slice none 0 0) vl ([] : List Int) L [(1, vl), (2, .pointer (some ⟨b2, 0, none⟩)), (4, .pointer (some ⟨b4, 0, none⟩)), (5, .pointer (some ⟨b7, 0, none⟩))] hA H Try.E27 rfl (H.arg hL) (by simp only [List.length_cons, List.length_nil, List.length_append]; omega) (by decide) (fun _ _ h => h) fun v11 a w12 H hA hG => ?_
  replace H : Fr _ _ _ [.row 3 v11 (([] : List Int) ++ L), .row 3 (.slice none 0 0) ([] : List Int), .box b7 29 [(.slice none 0 0), (.slice none 0 0)], .box b4 29 [(.slice none 0 0), (.slice none 0 0)], .box b2 24 [.int .i64 n, ve]] := H
  refine q_list 4 1 [] [(1, vl), (2, .pointer (some ⟨b2, 0, none⟩)), (4, .pointer (some ⟨b4, 0, none⟩)), (5, .pointer (some ⟨b7, 0, none⟩)), (11, v11), (12, .pointer (some ⟨b7, 0 + 1, none⟩))] ((0 < Try.prog.cellsOf 27) ∧ True) hA H ⟨by decide +kernel, trivial⟩ fun a w13 hA H hG => ?_
  refine list_at 5 ?_; refine q_store 5 27 (.tmp 12) (.tmp 11) 2 b7 (0 + 1) 29 [(.slice none 0 0), (.slice none 0 0)] [v11] [(.slice none 0 0), v11] v11 [(1, vl), (2, .pointer (some ⟨b2, 0, none⟩)), (4, .pointer (some ⟨b4, 0, none⟩)), (5, .pointer (some ⟨b7, 0, none⟩))] hA H rfl (one_cells (rd_one (H.out 0 rfl))) (Nat.le_of_ble_eq_true (by kernel_rfl)) rfl (fun v hv => by simp only [List.mem_cons, List.not_mem_nil, or_false] at hv; rcases hv with rfl; exact (rd_one (H.out 0 rfl))) fun a w14 H hA hG => ?_
  replace H : Fr _ _ _ [.row 3 v11 (([] : List Int) ++ L), .row 3 (.slice none 0 0) ([] : List Int), .box b7 29 [(.slice none 0 0), v11], .box b4 29 [(.slice none 0 0), (.slice none 0 0)], .box b2 24 [.int .i64 n, ve]] := H
  refine list_end ?_
  refine hK9 _ _ ?_
  refine go_seq fun K15 hK15 => ?_
  refine go_seq fun K16 hK16 => ?_
  refine q_reg [] [(1, vl), (2, .pointer (some ⟨b2, 0, none⟩)), (4, .pointer (some ⟨b4, 0, none⟩)), (5, .pointer (some ⟨b7, 0, none⟩)), (6, .int .i64 0)] ((True) ∧ True) hA H ⟨trivial, trivial⟩ fun a w17 hA H hG => ?_
  refine hK16 _ _ ?_
  refine go_block 0 ?_
  refine go_loop_ (Int × Value × List Int) (fun x_ a W => (fun (i : Int) (vr : Value) (l : List Int) => EnvOk 56 a (keepEnv [(1, vl), (2, .pointer (some ⟨b2, 0, none⟩)), (4, .pointer (some ⟨b4, 0, none⟩)), (5, .pointer (some ⟨b7, 0, none⟩)), (6, .int .i64 i)]) ∧ (∃ S, Fr o W S [.row 3 v11 (([] : List Int) ++ L), .row 3 vr l, .box b7 29 [vr, v11], .box b4 29 [(.slice none 0 0), (.slice none 0 0)], .box b2 24 [.int .i64 n, ve]]) ∧ 0 ≤ i ∧ (i ≤ n ∨ i = 0) ∧ (l.length : Int) ≤ i ∧ l = touchL E L i) x_.1 x_.2.1 x_.2.2) (fun x_ => (fun (i : Int) (vr : Value) (l : List Int) => (n - i).toNat) x_.1 x_.2.1 x_.2.2) (0, .slice none 0 0, []) ?_ (fun x_ a w19 hI => ?_)
  · (try dsimp only); exact ⟨env_sub _ hA, ⟨_, H⟩, by omega, by omega, by simp, rfl⟩
  obtain ⟨i, vr, l⟩ := x_
  obtain ⟨hA, ⟨S, H⟩, h0, h0a, h1, hi⟩ := hI
  try dsimp only at h0 h0a h1 hi
  refine go_seq fun K20 hK20 => ?_
  refine go_seq fun K21 hK21 => ?_
  refine q_reg [(15, .int .i64 n)] [(1, vl), (2, .pointer (some ⟨b2, 0, none⟩)), (4, .pointer (some ⟨b4, 0, none⟩)), (5, .pointer (some ⟨b7, 0, none⟩)), (6, .int .i64 i), (16, .bool (decide (i < n)))] ((True) ∧ (0 < Try.prog.cellsOf 3) ∧ (CellOk (On w19) b2 (0 + 0) (.int .i64 n)) ∧ (True) ∧ True) hA H ⟨trivial, by decide +kernel, by exact box_cell H 4 rfl 0, trivial, trivial⟩ fun a w22 hA H hG => ?_
  refine hK21 _ _ ?_
  refine go_cond hA (.tmp 16) (decide (i < n)) (fun hb23 => ?_) (fun hb23 => ?_)
  · have hhb23 := of_decide_eq_true hb23
    refine go_skip ?_
    refine hK20 _ _ ?_
    refine go_seq fun K24 hK24 => ?_
    refine go_block 1 ?_
    refine go_seq fun K25 hK25 => ?_
    refine q_reg [] [(1, vl), (2, .pointer (some ⟨b2, 0, none⟩)), (4, .pointer (some ⟨b4, 0, none⟩)), (5, .pointer (some ⟨b7, 0, none⟩)), (6, .int .i64 i), (7, .int .i64 0)] ((True) ∧ True) hA H ⟨trivial, trivial⟩ fun a w26 hA H hG => ?_
    refine hK25 _ _ ?_
    refine go_block 2 ?_
    refine go_loop_ (Int) (fun x_ a W => (fun (k : Int) => EnvOk 56 a (keepEnv [(1, vl), (2, .pointer (some ⟨b2, 0, none⟩)), (4, .pointer (some ⟨b4, 0, none⟩)), (5, .pointer (some ⟨b7, 0, none⟩)), (6, .int .i64 i), (7, .int .i64 k)]) ∧ (∃ S, Fr o W S [.row 3 v11 (([] : List Int) ++ L), .row 3 vr l, .box b7 29 [vr, v11], .box b4 29 [(.slice none 0 0), (.slice none 0 0)], .box b2 24 [.int .i64 n, ve]]) ∧ 0 ≤ k ∧ ∀ j : Nat, (j : Int) < k → ¬ touchP E (L.getD j 0) i) x_) (fun x_ => (fun (k : Int) => ((L.length : Int) - k).toNat) x_) (0) ?_ (fun k a w28 hI => ?_)
    · (try dsimp only); exact ⟨env_sub _ hA, ⟨_, H⟩, by omega, fun j hj => by omega⟩
    obtain ⟨hA, ⟨S, H⟩, k0, hk⟩ := hI
    try dsimp only at k0 hk
    refine go_seq fun K29 hK29 => ?_
    refine go_seq fun K30 hK30 => ?_
    refine q_reg [(21, .int .i64 (L.length : Int))] [(1, vl), (2, .pointer (some ⟨b2, 0, none⟩)), (4, .pointer (some ⟨b4, 0, none⟩)), (5, .pointer (some ⟨b7, 0, none⟩)), (6, .int .i64 i), (7, .int .i64 k), (22, .bool (decide (k < (L.length : Int))))] ((True) ∧ (True) ∧ (LenOk vl (L.length : Int)) ∧ (True) ∧ True) hA H ⟨trivial, trivial, by exact len_ok (H.arg hL), trivial, trivial⟩ fun a w31 hA H hG => ?_
    refine hK30 _ _ ?_
    refine go_cond hA (.tmp 22) (decide (k < (L.length : Int))) (fun hb32 => ?_) (fun hb32 => ?_)
    · have hhb32 := of_decide_eq_true hb32
      refine go_skip ?_
      refine hK29 _ _ ?_
      refine go_seq fun K33 hK33 => ?_
      refine go_block 3 ?_
      refine go_seq fun K34 hK34 => ?_
      have hx9 := hx k.toNat (by omega)
      refine q_draw [(26, ve), (30, .int .i64 (L.getD k.toNat 0)), (33, .int .i64 ((E.getD (L.getD k.toNat 0).toNat (0, 0)).1)), (38, ve), (42, .int .i64 (L.getD k.toNat 0)), (45, .int .i64 ((E.getD (L.getD k.toNat 0).toNat (0, 0)).2))] [(1, vl), (2, .pointer (some ⟨b2, 0, none⟩)), (4, .pointer (some ⟨b4, 0, none⟩)), (5, .pointer (some ⟨b7, 0, none⟩)), (6, .int .i64 i), (7, .int .i64 k), (48, .bool ((decide ((E.getD (L.getD k.toNat 0).toNat (0, 0)).1 = i)) || (decide ((E.getD (L.getD k.toNat 0).toNat (0, 0)).2 = i))))] ((0 < Try.prog.cellsOf 22) ∧ (CellOk (On w31) b2 (0 + 1) (ve)) ∧ (True) ∧ (True) ∧ ((Try.prog.info? 3).isSome = true ∧ IdxOk vl k) ∧ (CellOk (On w31) (hdB vl) (hdO vl + k.toNat * 1) (.int .i64 (L.getD k.toNat 0))) ∧ ((Try.prog.info? 99).isSome = true ∧ IdxOk ve (L.getD k.toNat 0)) ∧ (0 < Try.prog.cellsOf 3) ∧ (CellOk (On w31) (hdB ve) (hdO ve + (L.getD k.toNat 0).toNat * 2 + 0) (.int .i64 ((E.getD (L.getD k.toNat 0).toNat (0, 0)).1))) ∧ (True) ∧ (True) ∧ (True) ∧ ((decide ((E.getD (L.getD k.toNat 0).toNat (0, 0)).1 = i)) = false → 0 < Try.prog.cellsOf 22) ∧ ((decide ((E.getD (L.getD k.toNat 0).toNat (0, 0)).1 = i)) = false → CellOk (On w31) b2 (0 + 1) (ve)) ∧ ((decide ((E.getD (L.getD k.toNat 0).toNat (0, 0)).1 = i)) = false → True) ∧ ((decide ((E.getD (L.getD k.toNat 0).toNat (0, 0)).1 = i)) = false → True) ∧ ((decide ((E.getD (L.getD k.toNat 0).toNat (0, 0)).1 = i)) = false → (Try.prog.info? 3).isSome = true ∧ IdxOk vl k) ∧ ((decide ((E.getD (L.getD k.toNat 0).toNat (0, 0)).1 = i)) = false → CellOk (On w31) (hdB vl) (hdO vl + k.toNat * 1) (.int .i64 (L.getD k.toNat 0))) ∧ ((decide ((E.getD (L.getD k.toNat 0).toNat (0, 0)).1 = i)) = false → (Try.prog.info? 99).isSome = true ∧ IdxOk ve (L.getD k.toNat 0)) ∧ ((decide ((E.getD (L.getD k.toNat 0).toNat (0, 0)).1 = i)) = false → 0 < Try.prog.cellsOf 3) ∧ ((decide ((E.getD (L.getD k.toNat 0).toNat (0, 0)).1 = i)) = false → CellOk (On w31) (hdB ve) (hdO ve + (L.getD k.toNat 0).toNat * 2 + 1) (.int .i64 ((E.getD (L.getD k.toNat 0).toNat (0, 0)).2))) ∧ ((decide ((E.getD (L.getD k.toNat 0).toNat (0, 0)).1 = i)) = false → True) ∧ ((decide ((E.getD (L.getD k.toNat 0).toNat (0, 0)).1 = i)) = false → True) ∧ (True) ∧ True) hA H ⟨by decide +kernel, by exact box_cell H 4 rfl 1, trivial, trivial, ⟨by kernel_rfl, by exact idx_ok (H.arg hL) (by omega) (by omega)⟩, by exact cell_flat (i := k) (H.arg hL) (by omega) (by omega) 0 0, ⟨by kernel_rfl, by exact idx_ok (H.arg hE) (by omega) (by omega)⟩, by decide +kernel, by exact cell_flat (i := (L.getD k.toNat 0)) (H.arg hE) (by omega) (by omega) (0, 0) 0, trivial, trivial, trivial, fun _ => by decide +kernel, fun _ => by exact box_cell H 4 rfl 1, fun _ => trivial, fun _ => trivial, fun hg0 => by replace hg0 := of_decide_eq_false hg0; exact ⟨by kernel_rfl, by exact idx_ok (H.arg hL) (by omega) (by omega)⟩, fun hg0 => by replace hg0 := of_decide_eq_false hg0; exact by exact cell_flat (i := k) (H.arg hL) (by omega) (by omega) 0 0, fun hg0 => by replace hg0 := of_decide_eq_false hg0; exact ⟨by kernel_rfl, by exact idx_ok (H.arg hE) (by omega) (by omega)⟩, fun _ => by decide +kernel, fun hg0 => by replace hg0 := of_decide_eq_false hg0; exact by exact cell_flat (i := (L.getD k.toNat 0)) (H.arg hE) (by omega) (by omega) (0, 0) 1, fun _ => trivial, fun _ => trivial, trivial, trivial⟩ fun a w35 hA H hG => ?_
      refine hK34 _ _ ?_
      refine go_cond hA (.tmp 48) ((decide ((E.getD (L.getD k.toNat 0).toNat (0, 0)).1 = i)) || (decide ((E.getD (L.getD k.toNat 0).toNat (0, 0)).2 = i))) (fun hb36 => ?_) (fun hb36 => ?_)
      · have hhb36 := (oT hb36).imp (fun h => of_decide_eq_true h) (fun h => of_decide_eq_true h)
        refine go_seq fun K37 hK37 => ?_
        refine region_list ?_
        refine q_list 0 3 [(50, vr)] [(1, vl), (2, .pointer (some ⟨b2, 0, none⟩)), (4, .pointer (some ⟨b4, 0, none⟩)), (5, .pointer (some ⟨b7, 0, none⟩)), (6, .int .i64 i), (50, vr), (51, .int .i64 i)] ((0 < Try.prog.cellsOf 27) ∧ (CellOk (On w35) b7 (0 + 0) (vr)) ∧ (True) ∧ True) hA H ⟨by decide +kernel, by exact box_cell H 2 rfl 0, trivial, trivial⟩ fun a w38 hA H hG => ?_
        refine list_at 3 ?_; refine q_lit 3 52 27 1 #[(0, .tmp 51)] 3 [(0, .int .i64 i)] [.int .i64 i] [(1, vl), (2, .pointer (some ⟨b2, 0, none⟩)), (4, .pointer (some ⟨b4, 0, none⟩)), (5, .pointer (some ⟨b7, 0, none⟩)), (6, .int .i64 i), (50, vr)] hA H fun b39 a w40 H hA hG hge_b39 => ?_
        clear hge_b39
        refine list_at 4 ?_; refine q_push 4 53 (.tmp 50) (.tmp 52) 2 0 b39 1 1 vr l [i] [.int .i64 i] [(1, vl), (2, .pointer (some ⟨b2, 0, none⟩)), (4, .pointer (some ⟨b4, 0, none⟩)), (5, .pointer (some ⟨b7, 0, none⟩)), (6, .int .i64 i)] hA H Try.E27 rfl rfl (by exact (RowRd.single (α := Int) rfl)) rfl (by simp only [List.length_cons, List.length_nil, List.length_append]; omega) (by decide) fun v41 a w42 H hA hG => ?_
        replace H : Fr _ _ _ [.row 3 v11 (([] : List Int) ++ L), .row 3 v41 (l ++ [i]), .box b7 29 [vr, v11], .box b4 29 [(.slice none 0 0), (.slice none 0 0)], .box b2 24 [.int .i64 n, ve]] := H.drop 0
        refine q_list 5 1 [] [(1, vl), (2, .pointer (some ⟨b2, 0, none⟩)), (4, .pointer (some ⟨b4, 0, none⟩)), (5, .pointer (some ⟨b7, 0, none⟩)), (6, .int .i64 i), (53, v41), (54, .pointer (some ⟨b7, 0 + 0, none⟩))] ((0 < Try.prog.cellsOf 27) ∧ True) hA H ⟨by decide +kernel, trivial⟩ fun a w43 hA H hG => ?_
        refine list_at 6 ?_; refine q_store 6 27 (.tmp 54) (.tmp 53) 2 b7 (0 + 0) 29 [vr, v11] [v41] [v41, v11] v41 [(1, vl), (2, .pointer (some ⟨b2, 0, none⟩)), (4, .pointer (some ⟨b4, 0, none⟩)), (5, .pointer (some ⟨b7, 0, none⟩)), (6, .int .i64 i)] hA H rfl (one_cells (rd_one (H.out 1 rfl))) (Nat.le_of_ble_eq_true (by kernel_rfl)) rfl (fun v hv => by simp only [List.mem_cons, List.not_mem_nil, or_false] at hv; rcases hv with rfl; exact (rd_one (H.out 1 rfl))) fun a w44 H hA hG => ?_
        replace H : Fr _ _ _ [.row 3 v11 (([] : List Int) ++ L), .row 3 v41 (l ++ [i]), .box b7 29 [v41, v11], .box b4 29 [(.slice none 0 0), (.slice none 0 0)], .box b2 24 [.int .i64 n, ve]] := H
        refine list_end ?_
        refine hK37 _ _ ?_
        refine go_exit 2 ?_
        refine hK24 _ _ ?_
        refine q_reg [] [(1, vl), (2, .pointer (some ⟨b2, 0, none⟩)), (4, .pointer (some ⟨b4, 0, none⟩)), (5, .pointer (some ⟨b7, 0, none⟩)), (6, .int .i64 (i + 1))] ((True) ∧ (InR .i64 (i + 1)) ∧ (True) ∧ True) hA H ⟨trivial, ⟨by omega, by omega⟩, trivial, trivial⟩ fun a w45 hA H hG => ?_
        refine ⟨(i + 1, v41, l ++ [i]), ⟨env_sub _ hA, ⟨_, H⟩, ?_⟩, ?_⟩
        · (try dsimp only); exact ⟨by omega, by omega, by (try simp only [List.length_append, List.length_cons, List.length_nil]); omega, by rw [hi, touchL_T h0 (decide_eq_true ⟨k.toNat, by omega, hhb36⟩)]⟩
        · (try dsimp only); omega
      · have hhb36 := (⟨of_decide_eq_false ((oF hb36).1), of_decide_eq_false ((oF hb36).2)⟩ : _ ∧ _)
        refine go_skip ?_
        refine hK33 _ _ ?_
        refine q_reg [] [(1, vl), (2, .pointer (some ⟨b2, 0, none⟩)), (4, .pointer (some ⟨b4, 0, none⟩)), (5, .pointer (some ⟨b7, 0, none⟩)), (6, .int .i64 i), (7, .int .i64 (k + 1))] ((True) ∧ (InR .i64 (k + 1)) ∧ (True) ∧ True) hA H ⟨trivial, ⟨by omega, by omega⟩, trivial, trivial⟩ fun a w46 hA H hG => ?_
        refine ⟨(k + 1), ⟨env_sub _ hA, ⟨_, H⟩, ?_⟩, ?_⟩
        · (try dsimp only); exact ⟨by omega, fun j hj => if e : (j : Int) = k then (by rw [show j = k.toNat by omega]; unfold touchP; have := hhb36; omega) else hk j (by omega)⟩
        · (try dsimp only); omega
    · have hhb32 := of_decide_eq_false hb32
      refine go_exit 2 ?_
      refine hK24 _ _ ?_
      refine q_reg [] [(1, vl), (2, .pointer (some ⟨b2, 0, none⟩)), (4, .pointer (some ⟨b4, 0, none⟩)), (5, .pointer (some ⟨b7, 0, none⟩)), (6, .int .i64 (i + 1))] ((True) ∧ (InR .i64 (i + 1)) ∧ (True) ∧ True) hA H ⟨trivial, ⟨by omega, by omega⟩, trivial, trivial⟩ fun a w47 hA H hG => ?_
      refine ⟨(i + 1, vr, l), ⟨env_sub _ hA, ⟨_, H⟩, ?_⟩, ?_⟩
      · (try dsimp only); exact ⟨by omega, by omega, by (try simp only [List.length_append, List.length_cons, List.length_nil]); omega, by rw [hi, touchL_F h0 (decide_eq_false (fun ⟨j, hj, q⟩ => hk j (by omega) q))]⟩
      · (try dsimp only); omega
  · have hhb23 := of_decide_eq_false hb23
    refine go_exit 0 ?_
    refine hK15 _ _ ?_
    refine go_seq fun K48 hK48 => ?_
    refine region_list ?_
    refine q_list 0 1 [(55, .agg #[vr, v11])] [(4, .pointer (some ⟨b4, 0, none⟩)), (55, .agg #[vr, v11])] (((Try.prog.info? 29).isSome = true ∧ RowOk (On w22) b7 (0) (Try.prog.cellsOf 29) #[vr, v11]) ∧ True) hA H ⟨⟨by kernel_rfl, by exact box_row H 2 rfl 0 2⟩, trivial⟩ fun a w49 hA H hG => ?_
    refine list_at 1 ?_; refine q_store 1 29 (.tmp 4) (.tmp 55) 3 b4 (0) 29 [(.slice none 0 0), (.slice none 0 0)] [vr, v11] [vr, v11] (.agg #[vr, v11]) [(4, .pointer (some ⟨b4, 0, none⟩))] hA H rfl rfl (Nat.le_of_ble_eq_true (by kernel_rfl)) rfl (fun v hv => by simp only [List.mem_cons, List.not_mem_nil, or_false] at hv; rcases hv with rfl | rfl; exact (rd_one (H.out 1 rfl)); exact (rd_one (H.out 0 rfl))) fun a w50 H hA hG => ?_
    replace H : Fr _ _ _ [.row 3 v11 (([] : List Int) ++ L), .row 3 vr l, .box b7 29 [vr, v11], .box b4 29 [vr, v11], .box b2 24 [.int .i64 n, ve]] := H
    refine list_end ?_
    refine hK48 _ _ ?_
    refine go_ret_ ?_
    refine ret_cell 4 29 3 b4 29 [vr, v11] #[vr, v11] hA H rfl ?_ (ht := ⟨_, Try.underlying29⟩)
    have e1 : touchL E L i = touchL E L n := by unfold touchL; rw [upto_eq (by omega) h0a]
    rw [e1] at hi; subst hi; exact ⟨_, rfl, rd_two (H.give 1 rfl) (H.give 0 rfl), H.below⟩

end Go.Proofs.Ytahonnlgkmimlaa

set_option linter.unusedSimpArgs false
set_option linter.unusedVariables false
namespace Go.Proofs.Ytahonnlgkmimlaa
open Go.RowKit

set_option maxRecDepth 100000 in
set_option maxHeartbeats 1000000 in
theorem bspan_any (n : Int) (ve : Value) (E : List (Int × Int)) (vl : Value) (L : List Int) (o : Orig) (hn : -9223372036854775808 ≤ n ∧ n ≤ 9223372036854775807) (hE : Rd (· < o.w.heap.size) o.w ve E) (hL : Rd (· < o.w.heap.size) o.w vl L) (hx : risesP L (E.length : Int)) (hs : (E.length : Int) ≤ 100000) :
  Calls Try.prog 83 [.agg #[.int .i64 n, ve], vl].toArray o.w (Giv o (fun S v w' => Rd S w' v ((Lib.compact (sortL (endsL E L)), L)))) := by
  have hl9 := rises_len hx (by omega)
  refine enter Try.f83 43 Try.func83 fun a hA => ?_
  replace hA := env_sub [(0, .agg #[.int .i64 n, ve]), (1, vl)] hA
  have H := Fr.start o
  refine go_seq fun K1 hK1 => ?_
  refine region_list ?_
  refine list_at 0 ?_; refine q_box 0 2 24 (.tmp 0) (.agg #[.int .i64 n, ve]) [.int .i64 n, ve] [(1, vl)] hA H fun b2 a w3 H hA hG hge_b2 => ?_
  clear hge_b2
  refine list_at 1 ?_; refine q_alloc 1 4 29 [(.slice none 0 0), (.slice none 0 0)] [(1, vl), (2, .pointer (some ⟨b2, 0, none⟩))] hA H fun b4 a w5 H hA hG hge_b4 => ?_
  clear hge_b4
  refine list_end ?_
  refine hK1 _ _ ?_
  refine go_seq fun K6 hK6 => ?_
  refine region_list ?_
  refine q_list 0 1 [] [(1, vl), (2, .pointer (some ⟨b2, 0, none⟩)), (4, .pointer (some ⟨b4, 0, none⟩)), (8, vl)] ((True) ∧ True) hA H ⟨trivial, trivial⟩ fun a w7 hA H hG => ?_
  refine list_at 1 ?_; refine q_any 1 9 105 #[.tmp 8] #[27] [vl] _ [(1, vl), (2, .pointer (some ⟨b2, 0, none⟩)), (4, .pointer (some ⟨b4, 0, none⟩))] hA (clone_row H (H.arg hL) (by (try simp only [List.length_cons]); omega)) fun v8 a w9 hR10 hA => ?_
  obtain ⟨H, hG⟩ := hR10
  refine q_list 2 1 [(10, .agg #[(.slice none 0 0), v8])] [(1, vl), (2, .pointer (some ⟨b2, 0, none⟩)), (4, .pointer (some ⟨b4, 0, none⟩)), (10, .agg #[(.slice none 0 0), v8])] ((∀ w, (Instr.build 29 #[(1, v8)]).run Try.prog w = .ok (.agg #[(.slice none 0 0), v8]) w) ∧ True) hA H ⟨fun w => by obtain ⟨_, _, _, e0⟩ := rd_form (H.out 0 rfl); rw [e0]; kernel_rfl, trivial⟩ fun a w12 hA H hG => ?_
  refine list_at 3 ?_; refine q_alloc 3 5 29 [(.slice none 0 0), (.slice none 0 0)] [(1, vl), (2, .pointer (some ⟨b2, 0, none⟩)), (4, .pointer (some ⟨b4, 0, none⟩)), (10, .agg #[(.slice none 0 0), v8])] hA H fun b13 a w14 H hA hG hge_b13 => ?_
  clear hge_b13
  refine list_at 4 ?_; refine q_store 4 29 (.tmp 5) (.tmp 10) 0 b13 (0) 29 [(.slice none 0 0), (.slice none 0 0)] [(.slice none 0 0), v8] [(.slice none 0 0), v8] (.agg #[(.slice none 0 0), v8]) [(1, vl), (2, .pointer (some ⟨b2, 0, none⟩)), (4, .pointer (some ⟨b4, 0, none⟩)), (5, .pointer (some ⟨b13, 0, none⟩))] hA H rfl rfl (Nat.le_of_ble_eq_true (by kernel_rfl)) rfl (fun v hv => by simp only [List.mem_cons, List.not_mem_nil, or_false] at hv; rcases hv with rfl | rfl; exact rfl; exact (rd_one (H.out 1 rfl))) fun a w15 H hA hG => ?_
  replace H : Fr _ _ _ [.box b13 29 [(.slice none 0 0), v8], .row 3 v8 L, .box b4 29 [(.slice none 0 0), (.slice none 0 0)], .box b2 24 [.int .i64 n, ve]] := H
  refine list_end ?_
  refine hK6 _ _ ?_
  refine go_seq fun K16 hK16 => ?_
  refine go_seq fun K17 hK17 => ?_
  replace H := H.newRow (α := Int) 3
  replace H : Fr _ _ _ [.row 3 (.slice none 0 0) ([] : List Int), .box b13 29 [(.slice none 0 0), v8], .row 3 v8 L, .box b4 29 [(.slice none 0 0), (.slice none 0 0)], .box b2 24 [.int .i64 n, ve]] := H
  refine q_reg [(12, .int .i64 (L.length : Int))] [(2, .pointer (some ⟨b2, 0, none⟩)), (4, .pointer (some ⟨b4, 0, none⟩)), (5, .pointer (some ⟨b13, 0, none⟩)), (11, vl), (12, .int .i64 (L.length : Int)), (13, .int .i64 0)] ((True) ∧ (LenOk vl (L.length : Int)) ∧ (True) ∧ True) hA H ⟨trivial, by exact len_ok (H.arg hL), trivial, trivial⟩ fun a w18 hA H hG => ?_
  refine hK17 _ _ ?_
  refine go_block 0 ?_
  refine go_loop_ (Int × Value × List Int) (fun x_ a W => (fun (i : Int) (vr : Value) (l : List Int) => EnvOk 43 a (keepEnv [(2, .pointer (some ⟨b2, 0, none⟩)), (4, .pointer (some ⟨b4, 0, none⟩)), (5, .pointer (some ⟨b13, 0, none⟩)), (11, vl), (12, .int .i64 (L.length : Int)), (13, .int .i64 i)]) ∧ (∃ S, Fr o W S [.row 3 vr l, .box b13 29 [vr, v8], .row 3 v8 L, .box b4 29 [(.slice none 0 0), (.slice none 0 0)], .box b2 24 [.int .i64 n, ve]]) ∧ 0 ≤ i ∧ i ≤ (L.length : Int) ∧ (l.length : Int) ≤ 2 * i ∧ l ++ endsL E (L.drop i.toNat) = endsL E L) x_.1 x_.2.1 x_.2.2) (fun x_ => (fun (i : Int) (vr : Value) (l : List Int) => ((L.length : Int) - i).toNat) x_.1 x_.2.1 x_.2.2) (0, .slice none 0 0, []) ?_ (fun x_ a w20 hI => ?_)
  · (try dsimp only); exact ⟨env_sub _ hA, ⟨_, H⟩, by omega, by omega, by simp, by simp⟩
  obtain ⟨i, vr, l⟩ := x_
  obtain ⟨hA, ⟨S, H⟩, h0, h0b, h1, hi⟩ := hI
  try dsimp only at h0 h0b h1 hi
  refine go_seq fun K21 hK21 => ?_
  refine q_reg [] [(2, .pointer (some ⟨b2, 0, none⟩)), (4, .pointer (some ⟨b4, 0, none⟩)), (5, .pointer (some ⟨b13, 0, none⟩)), (11, vl), (12, .int .i64 (L.length : Int)), (13, .int .i64 i), (14, .bool (decide (i < (L.length : Int))))] ((True) ∧ True) hA H ⟨trivial, trivial⟩ fun a w22 hA H hG => ?_
  refine hK21 _ _ ?_
  refine go_seq fun K23 hK23 => ?_
  refine go_cond hA (.tmp 14) (decide (i < (L.length : Int))) (fun hb24 => ?_) (fun hb24 => ?_)
  · have hhb24 := of_decide_eq_true hb24
    refine go_skip ?_
    refine hK23 _ _ ?_
    refine go_seq fun K25 hK25 => ?_
    refine go_block 1 ?_
    refine go_seq fun K26 hK26 => ?_
    have hx9 := hx i.toNat (by omega)
    refine q_reg [(16, .int .i64 (L.getD i.toNat 0))] [(2, .pointer (some ⟨b2, 0, none⟩)), (4, .pointer (some ⟨b4, 0, none⟩)), (5, .pointer (some ⟨b13, 0, none⟩)), (7, .int .i64 (L.getD i.toNat 0)), (11, vl), (12, .int .i64 (L.length : Int)), (13, .int .i64 i)] (((Try.prog.info? 3).isSome = true ∧ IdxOk vl i) ∧ (CellOk (On w22) (hdB vl) (hdO vl + i.toNat * 1) (.int .i64 (L.getD i.toNat 0))) ∧ (True) ∧ True) hA H ⟨⟨by kernel_rfl, by exact idx_ok (H.arg hL) (by omega) (by omega)⟩, by exact cell_flat (i := i) (H.arg hL) (by omega) (by omega) 0 0, trivial, trivial⟩ fun a w27 hA H hG => ?_
    refine hK26 _ _ ?_
    have H0 := H
    have hM0 := H0.keeps vr.ownBlock (.inr ⟨_, List.mem_of_getElem? (i := 0) rfl, rfl⟩)
    refine region_mix (But w27 vr.ownBlock) [0, 1, 2, 3, 4, 5, 6, 7, 8, 9, 10, 11, 12, 13, 14, 15] 18 ?_
    replace H := H.drawn; have hD := But.drew w27 vr.ownBlock
    generalize ({ w27 with drawn := w27.drawn + 1 } : World) = w28 at H hD ⊢
    refine m_take (n := 4) [0, 1, 2, 3, 4, 5, 6, 7, 8, 9, 10, 11, 12, 13] #[true, true, true, true, true, true, true, true, true, true, true, true, true, true, false, false, false, false] [(18, vr), (20, ve), (24, .int .i64 ((E.getD (L.getD i.toNat 0).toNat (0, 0)).1)), (26, ve), (30, .int .i64 ((E.getD (L.getD i.toNat 0).toNat (0, 0)).2))] [(2, .pointer (some ⟨b2, 0, none⟩)), (4, .pointer (some ⟨b4, 0, none⟩)), (5, .pointer (some ⟨b13, 0, none⟩)), (11, vl), (12, .int .i64 (L.length : Int)), (13, .int .i64 i), (18, vr), (24, .int .i64 ((E.getD (L.getD i.toNat 0).toNat (0, 0)).1)), (30, .int .i64 ((E.getD (L.getD i.toNat 0).toNat (0, 0)).2))] ((0 < Try.prog.cellsOf 27) ∧ (CellOk (But w27 vr.ownBlock) b13 (0 + 0) (vr)) ∧ (0 < Try.prog.cellsOf 22) ∧ (CellOk (But w27 vr.ownBlock) b2 (0 + 1) (ve)) ∧ (True) ∧ ((Try.prog.info? 99).isSome = true ∧ IdxOk ve (L.getD i.toNat 0)) ∧ (0 < Try.prog.cellsOf 3) ∧ (CellOk (But w27 vr.ownBlock) (hdB ve) (hdO ve + (L.getD i.toNat 0).toNat * 2 + 0) (.int .i64 ((E.getD (L.getD i.toNat 0).toNat (0, 0)).1))) ∧ (0 < Try.prog.cellsOf 22) ∧ (CellOk (But w27 vr.ownBlock) b2 (0 + 1) (ve)) ∧ (True) ∧ ((Try.prog.info? 99).isSome = true ∧ IdxOk ve (L.getD i.toNat 0)) ∧ (0 < Try.prog.cellsOf 3) ∧ (CellOk (But w27 vr.ownBlock) (hdB ve) (hdO ve + (L.getD i.toNat 0).toNat * 2 + 1) (.int .i64 ((E.getD (L.getD i.toNat 0).toNat (0, 0)).2))) ∧ True) hA hD ⟨by decide +kernel, by exact box_cellC (box_atC H0 vr.ownBlock 1 rfl (H0.apart 1 0 (by decide) rfl rfl rfl)) 0, by decide +kernel, by exact box_cellC (box_atC H0 vr.ownBlock 4 rfl (H0.apart 4 0 (by decide) rfl rfl rfl)) 1, trivial, ⟨by kernel_rfl, by exact idx_ok (H0.argT hE) (by omega) (by omega)⟩, by decide +kernel, by exact cell_flatC hM0 (i := (L.getD i.toNat 0)) (H0.argT hE) (by omega) (by omega) (0, 0) 0, by decide +kernel, by exact box_cellC (box_atC H0 vr.ownBlock 4 rfl (H0.apart 4 0 (by decide) rfl rfl rfl)) 1, trivial, ⟨by kernel_rfl, by exact idx_ok (H0.argT hE) (by omega) (by omega)⟩, by decide +kernel, by exact cell_flatC hM0 (i := (L.getD i.toNat 0)) (H0.argT hE) (by omega) (by omega) (0, 0) 1, trivial⟩ fun a hA => ?_
    refine m_one 14 ?_; refine q_lit 14 31 27 2 #[(0, .tmp 24), (1, .tmp 30)] 3 [(0, .int .i64 ((E.getD (L.getD i.toNat 0).toNat (0, 0)).1)), (1, .int .i64 ((E.getD (L.getD i.toNat 0).toNat (0, 0)).2))] [.int .i64 ((E.getD (L.getD i.toNat 0).toNat (0, 0)).1), .int .i64 ((E.getD (L.getD i.toNat 0).toNat (0, 0)).2)] [(2, .pointer (some ⟨b2, 0, none⟩)), (4, .pointer (some ⟨b4, 0, none⟩)), (5, .pointer (some ⟨b13, 0, none⟩)), (11, vl), (12, .int .i64 (L.length : Int)), (13, .int .i64 i), (18, vr)] hA H fun b29 a w30 H hA hG hge_b29 => ?_
    replace hge_b29 := Nat.le_trans hD.1 hge_b29
    replace hD := hD.below hG
    refine ⟨fun _ => hD, ?_⟩
    refine m_one 15 ?_; refine q_push 15 32 (.tmp 18) (.tmp 31) 1 0 b29 2 2 vr l [(E.getD (L.getD i.toNat 0).toNat (0, 0)).1, (E.getD (L.getD i.toNat 0).toNat (0, 0)).2] [.int .i64 ((E.getD (L.getD i.toNat 0).toNat (0, 0)).1), .int .i64 ((E.getD (L.getD i.toNat 0).toNat (0, 0)).2)] [(2, .pointer (some ⟨b2, 0, none⟩)), (4, .pointer (some ⟨b4, 0, none⟩)), (5, .pointer (some ⟨b13, 0, none⟩)), (11, vl), (12, .int .i64 (L.length : Int)), (13, .int .i64 i)] hA H Try.E27 rfl rfl (by exact ((RowRd.single (α := Int) rfl).append (RowRd.single (α := Int) rfl))) rfl (by simp only [List.length_cons, List.length_nil, List.length_append]; omega) (by decide) fun v31 a w32 H hA hG => ?_
    replace H : Fr _ _ _ [.row 3 v31 (l ++ [(E.getD (L.getD i.toNat 0).toNat (0, 0)).1, (E.getD (L.getD i.toNat 0).toNat (0, 0)).2]), .box b13 29 [vr, v8], .row 3 v8 L, .box b4 29 [(.slice none 0 0), (.slice none 0 0)], .box b2 24 [.int .i64 n, ve]] := H.drop 0
    replace hD := hD.grown hG (fun b hb => .inl hb.symm)
    refine ⟨fun _ => hD, ?_⟩
    refine m_one 16 ?_; refine q_one 16 [] [(2, .pointer (some ⟨b2, 0, none⟩)), (4, .pointer (some ⟨b4, 0, none⟩)), (5, .pointer (some ⟨b13, 0, none⟩)), (11, vl), (12, .int .i64 (L.length : Int)), (13, .int .i64 i), (32, v31), (33, .pointer (some ⟨b13, 0 + 0, none⟩))] ((0 < Try.prog.cellsOf 27) ∧ True) hA H ⟨by decide +kernel, trivial⟩ fun a w33 H hA hG => ?_
    refine ⟨fun h => absurd h (by decide), ?_⟩
    refine m_one 17 ?_; refine q_store 17 27 (.tmp 33) (.tmp 32) 1 b13 (0 + 0) 29 [vr, v8] [v31] [v31, v8] v31 [(2, .pointer (some ⟨b2, 0, none⟩)), (4, .pointer (some ⟨b4, 0, none⟩)), (5, .pointer (some ⟨b13, 0, none⟩)), (11, vl), (12, .int .i64 (L.length : Int)), (13, .int .i64 i)] hA H rfl (one_cells (rd_one (H.out 0 rfl))) (Nat.le_of_ble_eq_true (by kernel_rfl)) rfl (fun v hv => by simp only [List.mem_cons, List.not_mem_nil, or_false] at hv; rcases hv with rfl; exact (rd_one (H.out 0 rfl))) fun a w34 H hA hG => ?_
    replace H : Fr _ _ _ [.row 3 v31 (l ++ [(E.getD (L.getD i.toNat 0).toNat (0, 0)).1, (E.getD (L.getD i.toNat 0).toNat (0, 0)).2]), .box b13 29 [v31, v8], .row 3 v8 L, .box b4 29 [(.slice none 0 0), (.slice none 0 0)], .box b2 24 [.int .i64 n, ve]] := H
    refine ⟨fun h => absurd h (by decide), ?_⟩
    refine m_end ?_
    refine hK25 _ _ ?_
    refine q_reg [] [(2, .pointer (some ⟨b2, 0, none⟩)), (4, .pointer (some ⟨b4, 0, none⟩)), (5, .pointer (some ⟨b13, 0, none⟩)), (11, vl), (12, .int .i64 (L.length : Int)), (13, .int .i64 (i + 1))] ((InR .i64 (i + 1)) ∧ (True) ∧ True) hA H ⟨⟨by omega, by omega⟩, trivial, trivial⟩ fun a w35 hA H hG => ?_
    refine ⟨(i + 1, v31, l ++ [(E.getD (L.getD i.toNat 0).toNat (0, 0)).1, (E.getD (L.getD i.toNat 0).toNat (0, 0)).2]), ⟨env_sub _ hA, ⟨_, H⟩, ?_⟩, ?_⟩
    · (try dsimp only); exact ⟨by omega, by omega, by (try simp only [List.length_append, List.length_cons, List.length_nil]); omega, by rw [endsL_round h0 (by omega)] at hi; (try simp only [List.append_assoc] at hi ⊢); exact hi⟩
    · (try dsimp only); omega
  · have hhb24 := of_decide_eq_false hb24
    refine go_exit 0 ?_
    refine hK16 _ _ ?_
    refine go_seq fun K36 hK36 => ?_
    rw [endsL_end (by omega), List.append_nil] at hi
    have hl1 : l.length ≤ 1000000 := by omega
    refine region_list ?_
    refine q_list 0 2 [(36, vr)] [(4, .pointer (some ⟨b4, 0, none⟩)), (5, .pointer (some ⟨b13, 0, none⟩)), (36, vr)] ((0 < Try.prog.cellsOf 27) ∧ (CellOk (On w22) b13 (0 + 0) (vr)) ∧ True) hA H ⟨by decide +kernel, by exact box_cell H 1 rfl 0, trivial⟩ fun a w37 hA H hG => ?_
    refine list_at 2 ?_; refine q_any 2 37 74 #[.tmp 36] #[27] [vr] _ [(4, .pointer (some ⟨b4, 0, none⟩)), (5, .pointer (some ⟨b13, 0, none⟩))] hA (by exact sort_row H 0 rfl (by first | omega | (simp only [List.length_mergeSort]; omega) | (simp only [List.length_cons]; omega))) fun v38 a w39 hR40 hA => ?_
    obtain ⟨H, hG⟩ := hR40
    replace H : Fr _ _ _ [.row 3 vr (sortL l), .box b13 29 [vr, v8], .row 3 v8 L, .box b4 29 [(.slice none 0 0), (.slice none 0 0)], .box b2 24 [.int .i64 n, ve]] := H
    refine list_end ?_
    refine hK36 _ _ ?_
    refine go_seq fun K41 hK41 => ?_
    refine region_list ?_
    refine q_list 0 2 [(39, vr)] [(4, .pointer (some ⟨b4, 0, none⟩)), (5, .pointer (some ⟨b13, 0, none⟩)), (39, vr)] ((0 < Try.prog.cellsOf 27) ∧ (CellOk (On w39) b13 (0 + 0) (vr)) ∧ True) hA H ⟨by decide +kernel, by exact box_cell H 1 rfl 0, trivial⟩ fun a w42 hA H hG => ?_
    refine list_at 2 ?_; refine q_any 2 40 75 #[.tmp 39] #[27] [vr] _ [(4, .pointer (some ⟨b4, 0, none⟩)), (5, .pointer (some ⟨b13, 0, none⟩))] hA (by exact compact_row H 0 rfl (by first | omega | (simp only [List.length_mergeSort]; omega) | (simp only [List.length_cons]; omega))) fun v43 a w44 hR45 hA => ?_
    obtain ⟨H, hG⟩ := hR45
    replace H : Fr _ _ _ [.row 3 v43 (Lib.compact (sortL l)), .box b13 29 [vr, v8], .row 3 v8 L, .box b4 29 [(.slice none 0 0), (.slice none 0 0)], .box b2 24 [.int .i64 n, ve]] := H
    refine q_list 3 1 [] [(4, .pointer (some ⟨b4, 0, none⟩)), (5, .pointer (some ⟨b13, 0, none⟩)), (40, v43), (41, .pointer (some ⟨b13, 0 + 0, none⟩))] ((0 < Try.prog.cellsOf 27) ∧ True) hA H ⟨by decide +kernel, trivial⟩ fun a w46 hA H hG => ?_
    refine list_at 4 ?_; refine q_store 4 27 (.tmp 41) (.tmp 40) 1 b13 (0 + 0) 29 [vr, v8] [v43] [v43, v8] v43 [(4, .pointer (some ⟨b4, 0, none⟩)), (5, .pointer (some ⟨b13, 0, none⟩))] hA H rfl (one_cells (rd_one (H.out 0 rfl))) (Nat.le_of_ble_eq_true (by kernel_rfl)) rfl (fun v hv => by simp only [List.mem_cons, List.not_mem_nil, or_false] at hv; rcases hv with rfl; exact (rd_one (H.out 0 rfl))) fun a w47 H hA hG => ?_
    replace H : Fr _ _ _ [.row 3 v43 (Lib.compact (sortL l)), .box b13 29 [v43, v8], .row 3 v8 L, .box b4 29 [(.slice none 0 0), (.slice none 0 0)], .box b2 24 [.int .i64 n, ve]] := H
    refine list_end ?_
    refine hK41 _ _ ?_
    refine go_seq fun K48 hK48 => ?_
    refine region_list ?_
    refine q_list 0 1 [(42, .agg #[v43, v8])] [(4, .pointer (some ⟨b4, 0, none⟩)), (42, .agg #[v43, v8])] (((Try.prog.info? 29).isSome = true ∧ RowOk (On w47) b13 (0) (Try.prog.cellsOf 29) #[v43, v8]) ∧ True) hA H ⟨⟨by kernel_rfl, by exact box_row H 1 rfl 0 2⟩, trivial⟩ fun a w49 hA H hG => ?_
    refine list_at 1 ?_; refine q_store 1 29 (.tmp 4) (.tmp 42) 3 b4 (0) 29 [(.slice none 0 0), (.slice none 0 0)] [v43, v8] [v43, v8] (.agg #[v43, v8]) [(4, .pointer (some ⟨b4, 0, none⟩))] hA H rfl rfl (Nat.le_of_ble_eq_true (by kernel_rfl)) rfl (fun v hv => by simp only [List.mem_cons, List.not_mem_nil, or_false] at hv; rcases hv with rfl | rfl; exact (rd_one (H.out 0 rfl)); exact (rd_one (H.out 2 rfl))) fun a w50 H hA hG => ?_
    replace H : Fr _ _ _ [.row 3 v43 (Lib.compact (sortL l)), .box b13 29 [v43, v8], .row 3 v8 L, .box b4 29 [v43, v8], .box b2 24 [.int .i64 n, ve]] := H
    refine list_end ?_
    refine hK48 _ _ ?_
    refine go_ret_ ?_
    refine ret_cell 4 29 3 b4 29 [v43, v8] #[v43, v8] hA H rfl ?_ (ht := ⟨_, Try.underlying29⟩)
    have hV2 := (H.give 0 rfl); have hE2 := (H.give 2 rfl); rw [hi] at hV2
    exact ⟨_, rfl, rd_two hV2 hE2, H.below⟩

end Go.Proofs.Ytahonnlgkmimlaa

set_option linter.unusedSimpArgs false
set_option linter.unusedVariables false
namespace Go.Proofs.Ytahonnlgkmimlaa
open Go.RowKit

set_option maxRecDepth 100000 in
set_option maxHeartbeats 4000000 in
theorem spread_any (n : Int) (ve : Value) (E : List (Int × Int)) (vv vl : Value) (V L : List Int) (vf : Value) (x0 but : Int) (o : Orig) (hn : -9223372036854775808 ≤ n ∧ n ≤ 9223372036854775807) (hE : Rd (· < o.w.heap.size) o.w ve E) (hV : Rd (· < o.w.heap.size) o.w vv V) (hL : Rd (· < o.w.heap.size) o.w vl L) (hF : Rd (· < o.w.heap.size) o.w vf [x0]) (hpt : partE n E V L = 0) (hab : x0 ≠ but) (haU : x0 ∈ endsL E L) :
  Calls Try.prog 131 [.agg #[.int .i64 n, ve], .agg #[vv, vl], vf, .int .i64 but].toArray o.w (Giv o (fun S v w' => Rd S w' v (spread E L x0 but))) := by
  obtain ⟨hp1, hp2, hp3, hp4⟩ := partE_0 hpt
  have hr9 := rightE_0 hp1
  have hl9 := rises_len hp3 (by omega)
  refine enter Try.f131 89 Try.func131 fun a hA => ?_
  replace hA := env_sub [(0, .agg #[.int .i64 n, ve]), (1, .agg #[vv, vl]), (2, vf), (3, .int .i64 but)] hA
  have H := Fr.start o
  refine go_seq fun K1 hK1 => ?_
  refine region_list ?_
  refine list_at 0 ?_; refine q_box 0 4 24 (.tmp 0) (.agg #[.int .i64 n, ve]) [.int .i64 n, ve] [(1, .agg #[vv, vl]), (2, vf), (3, .int .i64 but)] hA H fun b2 a w3 H hA hG hge_b2 => ?_
  clear hge_b2
  refine list_at 1 ?_; refine q_box 1 5 29 (.tmp 1) (.agg #[vv, vl]) [vv, vl] [(2, vf), (3, .int .i64 but), (4, .pointer (some ⟨b2, 0, none⟩))] hA H fun b4 a w5 H hA hG hge_b4 => ?_
  clear hge_b4
  refine q_list 2 1 [] [(2, vf), (3, .int .i64 but), (4, .pointer (some ⟨b2, 0, none⟩)), (5, .pointer (some ⟨b4, 0, none⟩))] ((True) ∧ True) hA H ⟨trivial, trivial⟩ fun a w6 hA H hG => ?_
  refine list_end ?_
  refine hK1 _ _ ?_
  refine go_seq fun K7 hK7 => ?_
  refine q_reg [] [(2, vf), (3, .int .i64 but), (4, .pointer (some ⟨b2, 0, none⟩)), (5, .pointer (some ⟨b4, 0, none⟩)), (9, (.slice none 0 0))] ((True) ∧ True) hA H ⟨trivial, trivial⟩ fun a w8 hA H hG => ?_
  refine hK7 _ _ ?_
  refine go_seq fun K9 hK9 => ?_
  replace H := H.newRow (α := Int) 3
  replace H : Fr _ _ _ [.row 3 (.slice none 0 0) ([] : List Int), .box b4 29 [vv, vl], .box b2 24 [.int .i64 n, ve]] := H
  refine region_list ?_
  refine q_list 0 2 [] [(3, .int .i64 but), (4, .pointer (some ⟨b2, 0, none⟩)), (5, .pointer (some ⟨b4, 0, none⟩)), (13, (.slice none 0 0)), (14, vf)] ((True) ∧ (True) ∧ True) hA H ⟨trivial, trivial, trivial⟩ fun a w10 hA H hG => ?_
  refine list_at 2 ?_; refine q_pushS 2 15 (.tmp 13) (.tmp 14) 0 (.slice none 0 0) vf ([] : List Int) [x0] [(3, .int .i64 but), (4, .pointer (some ⟨b2, 0, none⟩)), (5, .pointer (some ⟨b4, 0, none⟩))] hA H Try.E27 rfl (H.arg hF) (by simp only [List.length_cons, List.length_nil, List.length_append]; omega) (by decide) (fun _ _ h => h) fun v11 a w12 H hA hG => ?_
  replace H : Fr _ _ _ [.row 3 v11 (([] : List Int) ++ [x0]), .box b4 29 [vv, vl], .box b2 24 [.int .i64 n, ve]] := H
  refine q_list 3 1 [] [(3, .int .i64 but), (4, .pointer (some ⟨b2, 0, none⟩)), (5, .pointer (some ⟨b4, 0, none⟩)), (9, v11)] ((True) ∧ True) hA H ⟨trivial, trivial⟩ fun a w13 hA H hG => ?_
  refine list_end ?_
  refine hK9 _ _ ?_
  refine go_seq fun K14 hK14 => ?_
  refine go_seq fun K15 hK15 => ?_
  refine q_reg [] [(3, .int .i64 but), (4, .pointer (some ⟨b2, 0, none⟩)), (5, .pointer (some ⟨b4, 0, none⟩)), (9, v11), (10, .int .i64 0)] ((True) ∧ True) hA H ⟨trivial, trivial⟩ fun a w16 hA H hG => ?_
  refine hK15 _ _ ?_
  refine go_block 0 ?_
  refine go_loop_ (Int × Value × List Int) (fun x_ a W => (fun (i : Int) (vr : Value) (m : List Int) => EnvOk 89 a (keepEnv [(3, .int .i64 but), (4, .pointer (some ⟨b2, 0, none⟩)), (5, .pointer (some ⟨b4, 0, none⟩)), (9, vr), (10, .int .i64 i)]) ∧ (∃ S, Fr o W S [.row 3 vr m, .box b4 29 [vv, vl], .box b2 24 [.int .i64 n, ve]]) ∧ 0 ≤ i ∧ i ≤ (m.length : Int) ∧ Sp (grE E L) x0 but (endsL E L) m ∧ spF E L but (2 * L.length + 1 - i.toNat) i.toNat m = spread E L x0 but) x_.1 x_.2.1 x_.2.2) (fun x_ => (fun (i : Int) (vr : Value) (m : List Int) => (2 * (L.length : Int) + 1 - i).toNat) x_.1 x_.2.1 x_.2.2) (0, v11, [x0]) ?_ (fun x_ a w18 hI => ?_)
  · (try dsimp only); exact ⟨env_sub _ hA, ⟨_, H⟩, by omega, by simp, sp_first hab haU, rfl⟩
  obtain ⟨i, vr, m⟩ := x_
  obtain ⟨hA, ⟨S, H⟩, h0, h0b, hsp, hsf⟩ := hI
  try dsimp only at h0 h0b hsp hsf
  have hml := sp_len hsp
  refine go_seq fun K19 hK19 => ?_
  refine go_seq fun K20 hK20 => ?_
  refine q_reg [(18, .int .i64 (m.length : Int))] [(3, .int .i64 but), (4, .pointer (some ⟨b2, 0, none⟩)), (5, .pointer (some ⟨b4, 0, none⟩)), (9, vr), (10, .int .i64 i), (19, .bool (decide (i < (m.length : Int))))] ((True) ∧ (True) ∧ (LenOk vr (m.length : Int)) ∧ (True) ∧ True) hA H ⟨trivial, trivial, by exact len_ok (H.out 0 rfl), trivial, trivial⟩ fun a w21 hA H hG => ?_
  refine hK20 _ _ ?_
  refine go_cond hA (.tmp 19) (decide (i < (m.length : Int))) (fun hb22 => ?_) (fun hb22 => ?_)
  · have hhb22 := of_decide_eq_true hb22
    refine go_skip ?_
    refine hK19 _ _ ?_
    refine go_seq fun K23 hK23 => ?_
    refine go_block 1 ?_
    refine go_seq fun K24 hK24 => ?_
    refine q_reg [] [(3, .int .i64 but), (4, .pointer (some ⟨b2, 0, none⟩)), (5, .pointer (some ⟨b4, 0, none⟩)), (9, vr), (10, .int .i64 i), (11, .int .i64 0)] ((True) ∧ True) hA H ⟨trivial, trivial⟩ fun a w25 hA H hG => ?_
    refine hK24 _ _ ?_
    refine go_block 2 ?_
    refine go_loop_ (Int × Value × List Int) (fun x_ a W => (fun (k : Int) (vr2 : Value) (m2 : List Int) => EnvOk 89 a (keepEnv [(3, .int .i64 but), (4, .pointer (some ⟨b2, 0, none⟩)), (5, .pointer (some ⟨b4, 0, none⟩)), (9, vr2), (10, .int .i64 i), (11, .int .i64 k)]) ∧ (∃ S, Fr o W S [.row 3 vr2 m2, .box b4 29 [vv, vl], .box b2 24 [.int .i64 n, ve]]) ∧ 0 ≤ k ∧ k ≤ (L.length : Int) ∧ m2 = spRound E but i.toNat (L.take k.toNat) m) x_.1 x_.2.1 x_.2.2) (fun x_ => (fun (k : Int) (vr2 : Value) (m2 : List Int) => ((L.length : Int) - k).toNat) x_.1 x_.2.1 x_.2.2) (0, vr, m) ?_ (fun x_ a w27 hI => ?_)
    · (try dsimp only); exact ⟨env_sub _ hA, ⟨_, H⟩, by omega, by omega, by simp [spRound]⟩
    obtain ⟨k, vr2, m2⟩ := x_
    obtain ⟨hA, ⟨S, H⟩, k0, k0b, hm2⟩ := hI
    try dsimp only at k0 k0b hm2
    obtain ⟨hsp2, hr2, _⟩ := sp_round (i := i.toNat) (but := but) (sp_ends (E := E) (L := L)) (l := L.take k.toNat) (fun x hx => List.mem_of_mem_take hx) hsp (by omega)
    rw [← hm2] at hsp2 hr2
    have hml2 := sp_len hsp2
    have hr3 : m.length ≤ m2.length := by obtain ⟨r9, e9⟩ := hr2; rw [e9, List.length_append]; omega
    replace hr2 : True ∧ ∃ r, m2 = m ++ r := ⟨trivial, hr2⟩
    refine go_seq fun K28 hK28 => ?_
    refine go_seq fun K29 hK29 => ?_
    refine q_reg [(24, vl), (25, .int .i64 (L.length : Int))] [(3, .int .i64 but), (4, .pointer (some ⟨b2, 0, none⟩)), (5, .pointer (some ⟨b4, 0, none⟩)), (9, vr2), (10, .int .i64 i), (11, .int .i64 k), (26, .bool (decide (k < (L.length : Int))))] ((True) ∧ (0 < Try.prog.cellsOf 27) ∧ (CellOk (On w27) b4 (0 + 1) (vl)) ∧ (LenOk vl (L.length : Int)) ∧ (True) ∧ True) hA H ⟨trivial, by decide +kernel, by exact box_cell H 1 rfl 1, by exact len_ok (H.arg hL), trivial, trivial⟩ fun a w30 hA H hG => ?_
    refine hK29 _ _ ?_
    refine go_cond hA (.tmp 26) (decide (k < (L.length : Int))) (fun hb31 => ?_) (fun hb31 => ?_)
    · have hhb31 := of_decide_eq_true hb31
      refine go_skip ?_
      refine hK28 _ _ ?_
      refine go_seq fun K32 hK32 => ?_
      refine go_block 3 ?_
      refine go_seq fun K33 hK33 => ?_
      have hx := hp3 k.toNat (by omega)
      have H0 := H
      have hM0 := H0.keeps none (.inl rfl)
      refine region_mix (But w30 none) [0, 1, 2, 3, 4, 5, 6, 7, 8, 9] 11 ?_
      replace H := H.drawn; have hD := But.drew w30 none
      generalize ({ w30 with drawn := w30.drawn + 1 } : World) = w34 at H hD ⊢
      refine m_take (n := 2) [0, 1, 2, 3, 4, 5, 6, 7, 8] #[true, true, true, true, true, true, true, true, true, false, false] [(30, ve), (32, vl), (35, .int .i64 (L.getD k.toNat 0)), (37, .agg #[.int .i64 ((E.getD (L.getD k.toNat 0).toNat (0, 0)).1), .int .i64 ((E.getD (L.getD k.toNat 0).toNat (0, 0)).2)])] [(3, .int .i64 but), (4, .pointer (some ⟨b2, 0, none⟩)), (5, .pointer (some ⟨b4, 0, none⟩)), (9, vr2), (10, .int .i64 i), (11, .int .i64 k), (37, .agg #[.int .i64 ((E.getD (L.getD k.toNat 0).toNat (0, 0)).1), .int .i64 ((E.getD (L.getD k.toNat 0).toNat (0, 0)).2)])] ((0 < Try.prog.cellsOf 22) ∧ (CellOk (But w30 none) b2 (0 + 1) (ve)) ∧ (0 < Try.prog.cellsOf 27) ∧ (CellOk (But w30 none) b4 (0 + 1) (vl)) ∧ (True) ∧ ((Try.prog.info? 3).isSome = true ∧ IdxOk vl k) ∧ (CellOk (But w30 none) (hdB vl) (hdO vl + k.toNat * 1) (.int .i64 (L.getD k.toNat 0))) ∧ ((Try.prog.info? 99).isSome = true ∧ IdxOk ve (L.getD k.toNat 0)) ∧ ((Try.prog.info? 99).isSome = true ∧ RowOk (But w30 none) (hdB ve) (hdO ve + (L.getD k.toNat 0).toNat * 2) (Try.prog.cellsOf 99) #[.int .i64 ((E.getD (L.getD k.toNat 0).toNat (0, 0)).1), .int .i64 ((E.getD (L.getD k.toNat 0).toNat (0, 0)).2)]) ∧ True) hA hD ⟨by decide +kernel, by exact box_cellC (box_atC H0 none 2 rfl (fun e => by cases e)) 1, by decide +kernel, by exact box_cellC (box_atC H0 none 1 rfl (fun e => by cases e)) 1, trivial, ⟨by kernel_rfl, by exact idx_ok (H0.argT hL) (by omega) (by omega)⟩, by exact cell_flatC hM0 (i := k) (H0.argT hL) (by omega) (by omega) 0 0, ⟨by kernel_rfl, by exact idx_ok (H0.argT hE) (by omega) (by omega)⟩, ⟨by kernel_rfl, by exact row_flatC hM0 (i := (L.getD k.toNat 0)) (H0.argT hE) (by omega) (by omega) (0, 0)⟩, trivial⟩ fun a hA => ?_
      refine m_one 9 ?_; refine q_alloc 9 12 99 [.int .i64 0, .int .i64 0] [(3, .int .i64 but), (4, .pointer (some ⟨b2, 0, none⟩)), (5, .pointer (some ⟨b4, 0, none⟩)), (9, vr2), (10, .int .i64 i), (11, .int .i64 k), (37, .agg #[.int .i64 ((E.getD (L.getD k.toNat 0).toNat (0, 0)).1), .int .i64 ((E.getD (L.getD k.toNat 0).toNat (0, 0)).2)])] hA H fun b35 a w36 H hA hG hge_b35 => ?_
      replace hge_b35 := Nat.le_trans hD.1 hge_b35
      replace hD := hD.below hG
      refine ⟨fun _ => hD, ?_⟩
      refine m_one 10 ?_; refine q_store 10 99 (.tmp 12) (.tmp 37) 0 b35 (0) 99 [.int .i64 0, .int .i64 0] [.int .i64 ((E.getD (L.getD k.toNat 0).toNat (0, 0)).1), .int .i64 ((E.getD (L.getD k.toNat 0).toNat (0, 0)).2)] [.int .i64 ((E.getD (L.getD k.toNat 0).toNat (0, 0)).1), .int .i64 ((E.getD (L.getD k.toNat 0).toNat (0, 0)).2)] (.agg #[.int .i64 ((E.getD (L.getD k.toNat 0).toNat (0, 0)).1), .int .i64 ((E.getD (L.getD k.toNat 0).toNat (0, 0)).2)]) [(3, .int .i64 but), (4, .pointer (some ⟨b2, 0, none⟩)), (5, .pointer (some ⟨b4, 0, none⟩)), (9, vr2), (10, .int .i64 i), (11, .int .i64 k), (12, .pointer (some ⟨b35, 0, none⟩))] hA H rfl rfl (Nat.le_of_ble_eq_true (by kernel_rfl)) rfl (fun v hv => by simp only [List.mem_cons, List.not_mem_nil, or_false] at hv; rcases hv with rfl | rfl; exact rfl; exact rfl) fun a w37 H hA hG => ?_
      replace H : Fr _ _ _ [.box b35 99 [.int .i64 ((E.getD (L.getD k.toNat 0).toNat (0, 0)).1), .int .i64 ((E.getD (L.getD k.toNat 0).toNat (0, 0)).2)], .row 3 vr2 m2, .box b4 29 [vv, vl], .box b2 24 [.int .i64 n, ve]] := H
      refine ⟨fun h => absurd h (by decide), ?_⟩
      refine m_end ?_
      refine hK33 _ _ ?_
      refine go_seq fun K38 hK38 => ?_
      refine go_seq fun K39 hK39 => ?_
      refine q_draw [(39, .int .i64 ((E.getD (L.getD k.toNat 0).toNat (0, 0)).1)), (43, .int .i64 (m2.getD i.toNat 0)), (47, .int .i64 ((E.getD (L.getD k.toNat 0).toNat (0, 0)).2)), (54, .int .i64 ((E.getD (L.getD k.toNat 0).toNat (0, 0)).2)), (55, .bool (decide ((E.getD (L.getD k.toNat 0).toNat (0, 0)).2 ∈ m2)))] [(3, .int .i64 but), (4, .pointer (some ⟨b2, 0, none⟩)), (5, .pointer (some ⟨b4, 0, none⟩)), (9, vr2), (10, .int .i64 i), (11, .int .i64 k), (12, .pointer (some ⟨b35, 0, none⟩)), (57, .bool (((decide ((E.getD (L.getD k.toNat 0).toNat (0, 0)).1 = (m2.getD i.toNat 0))) && (!decide ((E.getD (L.getD k.toNat 0).toNat (0, 0)).2 = but))) && (!(decide ((E.getD (L.getD k.toNat 0).toNat (0, 0)).2 ∈ m2)))))] ((0 < Try.prog.cellsOf 3) ∧ (CellOk (On w37) b35 (0 + 0) (.int .i64 ((E.getD (L.getD k.toNat 0).toNat (0, 0)).1))) ∧ (True) ∧ (True) ∧ ((Try.prog.info? 3).isSome = true ∧ IdxOk vr2 i) ∧ (CellOk (On w37) (hdB vr2) (hdO vr2 + i.toNat * 1) (.int .i64 (m2.getD i.toNat 0))) ∧ (True) ∧ (True) ∧ ((decide ((E.getD (L.getD k.toNat 0).toNat (0, 0)).1 = (m2.getD i.toNat 0))) = true → 0 < Try.prog.cellsOf 3) ∧ ((decide ((E.getD (L.getD k.toNat 0).toNat (0, 0)).1 = (m2.getD i.toNat 0))) = true → CellOk (On w37) b35 (0 + 1) (.int .i64 ((E.getD (L.getD k.toNat 0).toNat (0, 0)).2))) ∧ ((decide ((E.getD (L.getD k.toNat 0).toNat (0, 0)).1 = (m2.getD i.toNat 0))) = true → True) ∧ ((decide ((E.getD (L.getD k.toNat 0).toNat (0, 0)).1 = (m2.getD i.toNat 0))) = true → True) ∧ (True) ∧ (True) ∧ (((decide ((E.getD (L.getD k.toNat 0).toNat (0, 0)).1 = (m2.getD i.toNat 0))) && (!decide ((E.getD (L.getD k.toNat 0).toNat (0, 0)).2 = but))) = true → True) ∧ (((decide ((E.getD (L.getD k.toNat 0).toNat (0, 0)).1 = (m2.getD i.toNat 0))) && (!decide ((E.getD (L.getD k.toNat 0).toNat (0, 0)).2 = but))) = true → 0 < Try.prog.cellsOf 3) ∧ (((decide ((E.getD (L.getD k.toNat 0).toNat (0, 0)).1 = (m2.getD i.toNat 0))) && (!decide ((E.getD (L.getD k.toNat 0).toNat (0, 0)).2 = but))) = true → CellOk (On w37) b35 (0 + 1) (.int .i64 ((E.getD (L.getD k.toNat 0).toNat (0, 0)).2))) ∧ (((decide ((E.getD (L.getD k.toNat 0).toNat (0, 0)).1 = (m2.getD i.toNat 0))) && (!decide ((E.getD (L.getD k.toNat 0).toNat (0, 0)).2 = but))) = true → Callable Try.prog 24 ∧ CallOk Try.prog (On w37) 24 [vr2, .int .i64 ((E.getD (L.getD k.toNat 0).toNat (0, 0)).2)].toArray (.bool (decide ((E.getD (L.getD k.toNat 0).toNat (0, 0)).2 ∈ m2)))) ∧ (((decide ((E.getD (L.getD k.toNat 0).toNat (0, 0)).1 = (m2.getD i.toNat 0))) && (!decide ((E.getD (L.getD k.toNat 0).toNat (0, 0)).2 = but))) = true → True) ∧ (True) ∧ True) hA H ⟨by decide +kernel, by exact box_cell H 0 rfl 0, trivial, trivial, ⟨by kernel_rfl, by exact idx_ok (H.out 1 rfl) (by omega) (by omega)⟩, by exact cell_flat (i := i) (H.out 1 rfl) (by omega) (by omega) 0 0, trivial, trivial, fun _ => by decide +kernel, fun _ => by exact box_cell H 0 rfl 1, fun _ => trivial, fun _ => trivial, trivial, trivial, fun _ => trivial, fun _ => by decide +kernel, fun _ => by exact box_cell H 0 rfl 1, fun _ => ⟨callable_of, callOk_of fun w hw => by exact in_any vr2 m2 ((E.getD (L.getD k.toNat 0).toNat (0, 0)).2) w (((H.on hw).out 1 rfl))⟩, fun _ => trivial, trivial, trivial⟩ fun a w40 hA H hG => ?_
      refine hK39 _ _ ?_
      refine go_cond hA (.tmp 57) (((decide ((E.getD (L.getD k.toNat 0).toNat (0, 0)).1 = (m2.getD i.toNat 0))) && (!decide ((E.getD (L.getD k.toNat 0).toNat (0, 0)).2 = but))) && (!(decide ((E.getD (L.getD k.toNat 0).toNat (0, 0)).2 ∈ m2)))) (fun hb41 => ?_) (fun hb41 => ?_)
      · have hhb41 := (⟨(⟨of_decide_eq_true ((aT ((aT hb41).1)).1), of_decide_eq_false (nT ((aT ((aT hb41).1)).2))⟩ : _ ∧ _), of_decide_eq_false (nT ((aT hb41).2))⟩ : _ ∧ _)
        refine region_list ?_
        refine q_list 0 3 [(60, .int .i64 ((E.getD (L.getD k.toNat 0).toNat (0, 0)).2))] [(3, .int .i64 but), (4, .pointer (some ⟨b2, 0, none⟩)), (5, .pointer (some ⟨b4, 0, none⟩)), (10, .int .i64 i), (11, .int .i64 k), (12, .pointer (some ⟨b35, 0, none⟩)), (58, vr2), (60, .int .i64 ((E.getD (L.getD k.toNat 0).toNat (0, 0)).2))] ((True) ∧ (0 < Try.prog.cellsOf 3) ∧ (CellOk (On w40) b35 (0 + 1) (.int .i64 ((E.getD (L.getD k.toNat 0).toNat (0, 0)).2))) ∧ True) hA H ⟨trivial, by decide +kernel, by exact box_cell H 0 rfl 1, trivial⟩ fun a w42 hA H hG => ?_
        refine list_at 3 ?_; refine q_lit 3 61 27 1 #[(0, .tmp 60)] 3 [(0, .int .i64 ((E.getD (L.getD k.toNat 0).toNat (0, 0)).2))] [.int .i64 ((E.getD (L.getD k.toNat 0).toNat (0, 0)).2)] [(3, .int .i64 but), (4, .pointer (some ⟨b2, 0, none⟩)), (5, .pointer (some ⟨b4, 0, none⟩)), (10, .int .i64 i), (11, .int .i64 k), (12, .pointer (some ⟨b35, 0, none⟩)), (58, vr2)] hA H fun b43 a w44 H hA hG hge_b43 => ?_
        clear hge_b43
        refine list_at 4 ?_; refine q_push 4 62 (.tmp 58) (.tmp 61) 2 0 b43 1 1 vr2 m2 [(E.getD (L.getD k.toNat 0).toNat (0, 0)).2] [.int .i64 ((E.getD (L.getD k.toNat 0).toNat (0, 0)).2)] [(3, .int .i64 but), (4, .pointer (some ⟨b2, 0, none⟩)), (5, .pointer (some ⟨b4, 0, none⟩)), (10, .int .i64 i), (11, .int .i64 k), (12, .pointer (some ⟨b35, 0, none⟩))] hA H Try.E27 rfl rfl (by exact (RowRd.single (α := Int) rfl)) rfl (by simp only [List.length_cons, List.length_nil, List.length_append]; omega) (by decide) fun v45 a w46 H hA hG => ?_
        replace H : Fr _ _ _ [.box b35 99 [.int .i64 ((E.getD (L.getD k.toNat 0).toNat (0, 0)).1), .int .i64 ((E.getD (L.getD k.toNat 0).toNat (0, 0)).2)], .row 3 v45 (m2 ++ [(E.getD (L.getD k.toNat 0).toNat (0, 0)).2]), .box b4 29 [vv, vl], .box b2 24 [.int .i64 n, ve]] := H.drop 0
        refine q_list 5 1 [] [(3, .int .i64 but), (4, .pointer (some ⟨b2, 0, none⟩)), (5, .pointer (some ⟨b4, 0, none⟩)), (9, v45), (10, .int .i64 i), (11, .int .i64 k), (12, .pointer (some ⟨b35, 0, none⟩))] ((True) ∧ True) hA H ⟨trivial, trivial⟩ fun a w47 hA H hG => ?_
        refine list_end ?_
        refine hK38 _ _ ?_
        refine go_seq fun K48 hK48 => ?_
        have hapl : (m2 ++ [(E.getD (L.getD k.toNat 0).toNat (0, 0)).2]).length = m2.length + 1 := by simp
        refine q_draw [(64, .int .i64 ((E.getD (L.getD k.toNat 0).toNat (0, 0)).2)), (68, .int .i64 ((m2 ++ [(E.getD (L.getD k.toNat 0).toNat (0, 0)).2]).getD i.toNat 0)), (72, .int .i64 ((E.getD (L.getD k.toNat 0).toNat (0, 0)).1)), (79, .int .i64 ((E.getD (L.getD k.toNat 0).toNat (0, 0)).1)), (80, .bool (decide ((E.getD (L.getD k.toNat 0).toNat (0, 0)).1 ∈ (m2 ++ [(E.getD (L.getD k.toNat 0).toNat (0, 0)).2]))))] [(3, .int .i64 but), (4, .pointer (some ⟨b2, 0, none⟩)), (5, .pointer (some ⟨b4, 0, none⟩)), (9, v45), (10, .int .i64 i), (11, .int .i64 k), (12, .pointer (some ⟨b35, 0, none⟩)), (82, .bool (((decide ((E.getD (L.getD k.toNat 0).toNat (0, 0)).2 = ((m2 ++ [(E.getD (L.getD k.toNat 0).toNat (0, 0)).2]).getD i.toNat 0))) && (!decide ((E.getD (L.getD k.toNat 0).toNat (0, 0)).1 = but))) && (!(decide ((E.getD (L.getD k.toNat 0).toNat (0, 0)).1 ∈ (m2 ++ [(E.getD (L.getD k.toNat 0).toNat (0, 0)).2]))))))] ((0 < Try.prog.cellsOf 3) ∧ (CellOk (On w47) b35 (0 + 1) (.int .i64 ((E.getD (L.getD k.toNat 0).toNat (0, 0)).2))) ∧ (True) ∧ (True) ∧ ((Try.prog.info? 3).isSome = true ∧ IdxOk v45 i) ∧ (CellOk (On w47) (hdB v45) (hdO v45 + i.toNat * 1) (.int .i64 ((m2 ++ [(E.getD (L.getD k.toNat 0).toNat (0, 0)).2]).getD i.toNat 0))) ∧ (True) ∧ (True) ∧ ((decide ((E.getD (L.getD k.toNat 0).toNat (0, 0)).2 = ((m2 ++ [(E.getD (L.getD k.toNat 0).toNat (0, 0)).2]).getD i.toNat 0))) = true → 0 < Try.prog.cellsOf 3) ∧ ((decide ((E.getD (L.getD k.toNat 0).toNat (0, 0)).2 = ((m2 ++ [(E.getD (L.getD k.toNat 0).toNat (0, 0)).2]).getD i.toNat 0))) = true → CellOk (On w47) b35 (0 + 0) (.int .i64 ((E.getD (L.getD k.toNat 0).toNat (0, 0)).1))) ∧ ((decide ((E.getD (L.getD k.toNat 0).toNat (0, 0)).2 = ((m2 ++ [(E.getD (L.getD k.toNat 0).toNat (0, 0)).2]).getD i.toNat 0))) = true → True) ∧ ((decide ((E.getD (L.getD k.toNat 0).toNat (0, 0)).2 = ((m2 ++ [(E.getD (L.getD k.toNat 0).toNat (0, 0)).2]).getD i.toNat 0))) = true → True) ∧ (True) ∧ (True) ∧ (((decide ((E.getD (L.getD k.toNat 0).toNat (0, 0)).2 = ((m2 ++ [(E.getD (L.getD k.toNat 0).toNat (0, 0)).2]).getD i.toNat 0))) && (!decide ((E.getD (L.getD k.toNat 0).toNat (0, 0)).1 = but))) = true → True) ∧ (((decide ((E.getD (L.getD k.toNat 0).toNat (0, 0)).2 = ((m2 ++ [(E.getD (L.getD k.toNat 0).toNat (0, 0)).2]).getD i.toNat 0))) && (!decide ((E.getD (L.getD k.toNat 0).toNat (0, 0)).1 = but))) = true → 0 < Try.prog.cellsOf 3) ∧ (((decide ((E.getD (L.getD k.toNat 0).toNat (0, 0)).2 = ((m2 ++ [(E.getD (L.getD k.toNat 0).toNat (0, 0)).2]).getD i.toNat 0))) && (!decide ((E.getD (L.getD k.toNat 0).toNat (0, 0)).1 = but))) = true → CellOk (On w47) b35 (0 + 0) (.int .i64 ((E.getD (L.getD k.toNat 0).toNat (0, 0)).1))) ∧ (((decide ((E.getD (L.getD k.toNat 0).toNat (0, 0)).2 = ((m2 ++ [(E.getD (L.getD k.toNat 0).toNat (0, 0)).2]).getD i.toNat 0))) && (!decide ((E.getD (L.getD k.toNat 0).toNat (0, 0)).1 = but))) = true → Callable Try.prog 24 ∧ CallOk Try.prog (On w47) 24 [v45, .int .i64 ((E.getD (L.getD k.toNat 0).toNat (0, 0)).1)].toArray (.bool (decide ((E.getD (L.getD k.toNat 0).toNat (0, 0)).1 ∈ (m2 ++ [(E.getD (L.getD k.toNat 0).toNat (0, 0)).2]))))) ∧ (((decide ((E.getD (L.getD k.toNat 0).toNat (0, 0)).2 = ((m2 ++ [(E.getD (L.getD k.toNat 0).toNat (0, 0)).2]).getD i.toNat 0))) && (!decide ((E.getD (L.getD k.toNat 0).toNat (0, 0)).1 = but))) = true → True) ∧ (True) ∧ True) hA H ⟨by decide +kernel, by exact box_cell H 0 rfl 1, trivial, trivial, ⟨by kernel_rfl, by exact idx_ok (H.out 1 rfl) (by omega) (by omega)⟩, by exact cell_flat (i := i) (H.out 1 rfl) (by omega) (by omega) 0 0, trivial, trivial, fun _ => by decide +kernel, fun _ => by exact box_cell H 0 rfl 0, fun _ => trivial, fun _ => trivial, trivial, trivial, fun _ => trivial, fun _ => by decide +kernel, fun _ => by exact box_cell H 0 rfl 0, fun _ => ⟨callable_of, callOk_of fun w hw => by exact in_any v45 (m2 ++ [(E.getD (L.getD k.toNat 0).toNat (0, 0)).2]) ((E.getD (L.getD k.toNat 0).toNat (0, 0)).1) w (((H.on hw).out 1 rfl))⟩, fun _ => trivial, trivial, trivial⟩ fun a w49 hA H hG => ?_
        refine hK48 _ _ ?_
        refine go_cond hA (.tmp 82) (((decide ((E.getD (L.getD k.toNat 0).toNat (0, 0)).2 = ((m2 ++ [(E.getD (L.getD k.toNat 0).toNat (0, 0)).2]).getD i.toNat 0))) && (!decide ((E.getD (L.getD k.toNat 0).toNat (0, 0)).1 = but))) && (!(decide ((E.getD (L.getD k.toNat 0).toNat (0, 0)).1 ∈ (m2 ++ [(E.getD (L.getD k.toNat 0).toNat (0, 0)).2]))))) (fun hb50 => ?_) (fun hb50 => ?_)
        · have hhb50 := (⟨(⟨of_decide_eq_true ((aT ((aT hb50).1)).1), of_decide_eq_false (nT ((aT ((aT hb50).1)).2))⟩ : _ ∧ _), of_decide_eq_false (nT ((aT hb50).2))⟩ : _ ∧ _)
          refine region_list ?_
          refine q_list 0 3 [(85, .int .i64 ((E.getD (L.getD k.toNat 0).toNat (0, 0)).1))] [(3, .int .i64 but), (4, .pointer (some ⟨b2, 0, none⟩)), (5, .pointer (some ⟨b4, 0, none⟩)), (10, .int .i64 i), (11, .int .i64 k), (83, v45), (85, .int .i64 ((E.getD (L.getD k.toNat 0).toNat (0, 0)).1))] ((True) ∧ (0 < Try.prog.cellsOf 3) ∧ (CellOk (On w49) b35 (0 + 0) (.int .i64 ((E.getD (L.getD k.toNat 0).toNat (0, 0)).1))) ∧ True) hA H ⟨trivial, by decide +kernel, by exact box_cell H 0 rfl 0, trivial⟩ fun a w51 hA H hG => ?_
          refine list_at 3 ?_; refine q_lit 3 86 27 1 #[(0, .tmp 85)] 3 [(0, .int .i64 ((E.getD (L.getD k.toNat 0).toNat (0, 0)).1))] [.int .i64 ((E.getD (L.getD k.toNat 0).toNat (0, 0)).1)] [(3, .int .i64 but), (4, .pointer (some ⟨b2, 0, none⟩)), (5, .pointer (some ⟨b4, 0, none⟩)), (10, .int .i64 i), (11, .int .i64 k), (83, v45)] hA H fun b52 a w53 H hA hG hge_b52 => ?_
          clear hge_b52
          refine list_at 4 ?_; refine q_push 4 87 (.tmp 83) (.tmp 86) 2 0 b52 1 1 v45 (m2 ++ [(E.getD (L.getD k.toNat 0).toNat (0, 0)).2]) [(E.getD (L.getD k.toNat 0).toNat (0, 0)).1] [.int .i64 ((E.getD (L.getD k.toNat 0).toNat (0, 0)).1)] [(3, .int .i64 but), (4, .pointer (some ⟨b2, 0, none⟩)), (5, .pointer (some ⟨b4, 0, none⟩)), (10, .int .i64 i), (11, .int .i64 k)] hA H Try.E27 rfl rfl (by exact (RowRd.single (α := Int) rfl)) rfl (by simp only [List.length_cons, List.length_nil, List.length_append]; omega) (by decide) fun v54 a w55 H hA hG => ?_
          replace H : Fr _ _ _ [.box b35 99 [.int .i64 ((E.getD (L.getD k.toNat 0).toNat (0, 0)).1), .int .i64 ((E.getD (L.getD k.toNat 0).toNat (0, 0)).2)], .row 3 v54 ((m2 ++ [(E.getD (L.getD k.toNat 0).toNat (0, 0)).2]) ++ [(E.getD (L.getD k.toNat 0).toNat (0, 0)).1]), .box b4 29 [vv, vl], .box b2 24 [.int .i64 n, ve]] := H.drop 0
          refine q_list 5 1 [] [(3, .int .i64 but), (4, .pointer (some ⟨b2, 0, none⟩)), (5, .pointer (some ⟨b4, 0, none⟩)), (9, v54), (10, .int .i64 i), (11, .int .i64 k)] ((True) ∧ True) hA H ⟨trivial, trivial⟩ fun a w56 hA H hG => ?_
          refine list_end ?_
          refine hK32 _ _ ?_
          refine q_reg [] [(3, .int .i64 but), (4, .pointer (some ⟨b2, 0, none⟩)), (5, .pointer (some ⟨b4, 0, none⟩)), (9, v54), (10, .int .i64 i), (11, .int .i64 (k + 1))] ((True) ∧ (InR .i64 (k + 1)) ∧ (True) ∧ True) hA H ⟨trivial, ⟨by omega, by omega⟩, trivial, trivial⟩ fun a w57 hA H hG => ?_
          replace H := H.drop 0
          refine ⟨(k + 1, v54, (m2 ++ [(E.getD (L.getD k.toNat 0).toNat (0, 0)).2]) ++ [(E.getD (L.getD k.toNat 0).toNat (0, 0)).1]), ⟨env_sub _ hA, ⟨_, H⟩, ?_⟩, ?_⟩
          · (try dsimp only); refine ⟨by omega, by omega, ?_⟩; rw [spRound_snoc k0 (by omega), ← hm2, spStep_b, hb41]; dsimp only [cond_true, cond_false]; rw [hb50]; rfl
          · (try dsimp only); omega
        · have hhb50 := (aF hb50).imp (fun h => (aF h).imp (fun h => of_decide_eq_false h) (fun h => of_decide_eq_true (nF h))) (fun h => of_decide_eq_true (nF h))
          refine go_skip ?_
          refine hK32 _ _ ?_
          refine q_reg [] [(3, .int .i64 but), (4, .pointer (some ⟨b2, 0, none⟩)), (5, .pointer (some ⟨b4, 0, none⟩)), (9, v45), (10, .int .i64 i), (11, .int .i64 (k + 1))] ((True) ∧ (InR .i64 (k + 1)) ∧ (True) ∧ True) hA H ⟨trivial, ⟨by omega, by omega⟩, trivial, trivial⟩ fun a w58 hA H hG => ?_
          replace H := H.drop 0
          refine ⟨(k + 1, v45, m2 ++ [(E.getD (L.getD k.toNat 0).toNat (0, 0)).2]), ⟨env_sub _ hA, ⟨_, H⟩, ?_⟩, ?_⟩
          · (try dsimp only); refine ⟨by omega, by omega, ?_⟩; rw [spRound_snoc k0 (by omega), ← hm2, spStep_b, hb41]; dsimp only [cond_true, cond_false]; rw [hb50]; rfl
          · (try dsimp only); omega
      · have hhb41 := (aF hb41).imp (fun h => (aF h).imp (fun h => of_decide_eq_false h) (fun h => of_decide_eq_true (nF h))) (fun h => of_decide_eq_true (nF h))
        refine go_skip ?_
        refine hK38 _ _ ?_
        refine go_seq fun K59 hK59 => ?_
        refine q_draw [(64, .int .i64 ((E.getD (L.getD k.toNat 0).toNat (0, 0)).2)), (68, .int .i64 (m2.getD i.toNat 0)), (72, .int .i64 ((E.getD (L.getD k.toNat 0).toNat (0, 0)).1)), (79, .int .i64 ((E.getD (L.getD k.toNat 0).toNat (0, 0)).1)), (80, .bool (decide ((E.getD (L.getD k.toNat 0).toNat (0, 0)).1 ∈ m2)))] [(3, .int .i64 but), (4, .pointer (some ⟨b2, 0, none⟩)), (5, .pointer (some ⟨b4, 0, none⟩)), (9, vr2), (10, .int .i64 i), (11, .int .i64 k), (12, .pointer (some ⟨b35, 0, none⟩)), (82, .bool (((decide ((E.getD (L.getD k.toNat 0).toNat (0, 0)).2 = (m2.getD i.toNat 0))) && (!decide ((E.getD (L.getD k.toNat 0).toNat (0, 0)).1 = but))) && (!(decide ((E.getD (L.getD k.toNat 0).toNat (0, 0)).1 ∈ m2)))))] ((0 < Try.prog.cellsOf 3) ∧ (CellOk (On w40) b35 (0 + 1) (.int .i64 ((E.getD (L.getD k.toNat 0).toNat (0, 0)).2))) ∧ (True) ∧ (True) ∧ ((Try.prog.info? 3).isSome = true ∧ IdxOk vr2 i) ∧ (CellOk (On w40) (hdB vr2) (hdO vr2 + i.toNat * 1) (.int .i64 (m2.getD i.toNat 0))) ∧ (True) ∧ (True) ∧ ((decide ((E.getD (L.getD k.toNat 0).toNat (0, 0)).2 = (m2.getD i.toNat 0))) = true → 0 < Try.prog.cellsOf 3) ∧ ((decide ((E.getD (L.getD k.toNat 0).toNat (0, 0)).2 = (m2.getD i.toNat 0))) = true → CellOk (On w40) b35 (0 + 0) (.int .i64 ((E.getD (L.getD k.toNat 0).toNat (0, 0)).1))) ∧ ((decide ((E.getD (L.getD k.toNat 0).toNat (0, 0)).2 = (m2.getD i.toNat 0))) = true → True) ∧ ((decide ((E.getD (L.getD k.toNat 0).toNat (0, 0)).2 = (m2.getD i.toNat 0))) = true → True) ∧ (True) ∧ (True) ∧ (((decide ((E.getD (L.getD k.toNat 0).toNat (0, 0)).2 = (m2.getD i.toNat 0))) && (!decide ((E.getD (L.getD k.toNat 0).toNat (0, 0)).1 = but))) = true → True) ∧ (((decide ((E.getD (L.getD k.toNat 0).toNat (0, 0)).2 = (m2.getD i.toNat 0))) && (!decide ((E.getD (L.getD k.toNat 0).toNat (0, 0)).1 = but))) = true → 0 < Try.prog.cellsOf 3) ∧ (((decide ((E.getD (L.getD k.toNat 0).toNat (0, 0)).2 = (m2.getD i.toNat 0))) && (!decide ((E.getD (L.getD k.toNat 0).toNat (0, 0)).1 = but))) = true → CellOk (On w40) b35 (0 + 0) (.int .i64 ((E.getD (L.getD k.toNat 0).toNat (0, 0)).1))) ∧ (((decide ((E.getD (L.getD k.toNat 0).toNat (0, 0)).2 = (m2.getD i.toNat 0))) && (!decide ((E.getD (L.getD k.toNat 0).toNat (0, 0)).1 = but))) = true → Callable Try.prog 24 ∧ CallOk Try.prog (On w40) 24 [vr2, .int .i64 ((E.getD (L.getD k.toNat 0).toNat (0, 0)).1)].toArray (.bool (decide ((E.getD (L.getD k.toNat 0).toNat (0, 0)).1 ∈ m2)))) ∧ (((decide ((E.getD (L.getD k.toNat 0).toNat (0, 0)).2 = (m2.getD i.toNat 0))) && (!decide ((E.getD (L.getD k.toNat 0).toNat (0, 0)).1 = but))) = true → True) ∧ (True) ∧ True) hA H ⟨by decide +kernel, by exact box_cell H 0 rfl 1, trivial, trivial, ⟨by kernel_rfl, by exact idx_ok (H.out 1 rfl) (by omega) (by omega)⟩, by exact cell_flat (i := i) (H.out 1 rfl) (by omega) (by omega) 0 0, trivial, trivial, fun _ => by decide +kernel, fun _ => by exact box_cell H 0 rfl 0, fun _ => trivial, fun _ => trivial, trivial, trivial, fun _ => trivial, fun _ => by decide +kernel, fun _ => by exact box_cell H 0 rfl 0, fun _ => ⟨callable_of, callOk_of fun w hw => by exact in_any vr2 m2 ((E.getD (L.getD k.toNat 0).toNat (0, 0)).1) w (((H.on hw).out 1 rfl))⟩, fun _ => trivial, trivial, trivial⟩ fun a w60 hA H hG => ?_
        refine hK59 _ _ ?_
        refine go_cond hA (.tmp 82) (((decide ((E.getD (L.getD k.toNat 0).toNat (0, 0)).2 = (m2.getD i.toNat 0))) && (!decide ((E.getD (L.getD k.toNat 0).toNat (0, 0)).1 = but))) && (!(decide ((E.getD (L.getD k.toNat 0).toNat (0, 0)).1 ∈ m2)))) (fun hb61 => ?_) (fun hb61 => ?_)
        · have hhb61 := (⟨(⟨of_decide_eq_true ((aT ((aT hb61).1)).1), of_decide_eq_false (nT ((aT ((aT hb61).1)).2))⟩ : _ ∧ _), of_decide_eq_false (nT ((aT hb61).2))⟩ : _ ∧ _)
          refine region_list ?_
          refine q_list 0 3 [(85, .int .i64 ((E.getD (L.getD k.toNat 0).toNat (0, 0)).1))] [(3, .int .i64 but), (4, .pointer (some ⟨b2, 0, none⟩)), (5, .pointer (some ⟨b4, 0, none⟩)), (10, .int .i64 i), (11, .int .i64 k), (83, vr2), (85, .int .i64 ((E.getD (L.getD k.toNat 0).toNat (0, 0)).1))] ((True) ∧ (0 < Try.prog.cellsOf 3) ∧ (CellOk (On w60) b35 (0 + 0) (.int .i64 ((E.getD (L.getD k.toNat 0).toNat (0, 0)).1))) ∧ True) hA H ⟨trivial, by decide +kernel, by exact box_cell H 0 rfl 0, trivial⟩ fun a w62 hA H hG => ?_
          refine list_at 3 ?_; refine q_lit 3 86 27 1 #[(0, .tmp 85)] 3 [(0, .int .i64 ((E.getD (L.getD k.toNat 0).toNat (0, 0)).1))] [.int .i64 ((E.getD (L.getD k.toNat 0).toNat (0, 0)).1)] [(3, .int .i64 but), (4, .pointer (some ⟨b2, 0, none⟩)), (5, .pointer (some ⟨b4, 0, none⟩)), (10, .int .i64 i), (11, .int .i64 k), (83, vr2)] hA H fun b63 a w64 H hA hG hge_b63 => ?_
          clear hge_b63
          refine list_at 4 ?_; refine q_push 4 87 (.tmp 83) (.tmp 86) 2 0 b63 1 1 vr2 m2 [(E.getD (L.getD k.toNat 0).toNat (0, 0)).1] [.int .i64 ((E.getD (L.getD k.toNat 0).toNat (0, 0)).1)] [(3, .int .i64 but), (4, .pointer (some ⟨b2, 0, none⟩)), (5, .pointer (some ⟨b4, 0, none⟩)), (10, .int .i64 i), (11, .int .i64 k)] hA H Try.E27 rfl rfl (by exact (RowRd.single (α := Int) rfl)) rfl (by simp only [List.length_cons, List.length_nil, List.length_append]; omega) (by decide) fun v65 a w66 H hA hG => ?_
          replace H : Fr _ _ _ [.box b35 99 [.int .i64 ((E.getD (L.getD k.toNat 0).toNat (0, 0)).1), .int .i64 ((E.getD (L.getD k.toNat 0).toNat (0, 0)).2)], .row 3 v65 (m2 ++ [(E.getD (L.getD k.toNat 0).toNat (0, 0)).1]), .box b4 29 [vv, vl], .box b2 24 [.int .i64 n, ve]] := H.drop 0
          refine q_list 5 1 [] [(3, .int .i64 but), (4, .pointer (some ⟨b2, 0, none⟩)), (5, .pointer (some ⟨b4, 0, none⟩)), (9, v65), (10, .int .i64 i), (11, .int .i64 k)] ((True) ∧ True) hA H ⟨trivial, trivial⟩ fun a w67 hA H hG => ?_
          refine list_end ?_
          refine hK32 _ _ ?_
          refine q_reg [] [(3, .int .i64 but), (4, .pointer (some ⟨b2, 0, none⟩)), (5, .pointer (some ⟨b4, 0, none⟩)), (9, v65), (10, .int .i64 i), (11, .int .i64 (k + 1))] ((True) ∧ (InR .i64 (k + 1)) ∧ (True) ∧ True) hA H ⟨trivial, ⟨by omega, by omega⟩, trivial, trivial⟩ fun a w68 hA H hG => ?_
          replace H := H.drop 0
          refine ⟨(k + 1, v65, m2 ++ [(E.getD (L.getD k.toNat 0).toNat (0, 0)).1]), ⟨env_sub _ hA, ⟨_, H⟩, ?_⟩, ?_⟩
          · (try dsimp only); refine ⟨by omega, by omega, ?_⟩; rw [spRound_snoc k0 (by omega), ← hm2, spStep_b, hb41]; dsimp only [cond_true, cond_false]; rw [hb61]; rfl
          · (try dsimp only); omega
        · have hhb61 := (aF hb61).imp (fun h => (aF h).imp (fun h => of_decide_eq_false h) (fun h => of_decide_eq_true (nF h))) (fun h => of_decide_eq_true (nF h))
          refine go_skip ?_
          refine hK32 _ _ ?_
          refine q_reg [] [(3, .int .i64 but), (4, .pointer (some ⟨b2, 0, none⟩)), (5, .pointer (some ⟨b4, 0, none⟩)), (9, vr2), (10, .int .i64 i), (11, .int .i64 (k + 1))] ((True) ∧ (InR .i64 (k + 1)) ∧ (True) ∧ True) hA H ⟨trivial, ⟨by omega, by omega⟩, trivial, trivial⟩ fun a w69 hA H hG => ?_
          replace H := H.drop 0
          refine ⟨(k + 1, vr2, m2), ⟨env_sub _ hA, ⟨_, H⟩, ?_⟩, ?_⟩
          · (try dsimp only); refine ⟨by omega, by omega, ?_⟩; rw [spRound_snoc k0 (by omega), ← hm2, spStep_b, hb41]; dsimp only [cond_true, cond_false]; rw [hb61]; rfl
          · (try dsimp only); omega
    · have hhb31 := of_decide_eq_false hb31
      refine go_exit 2 ?_
      refine hK23 _ _ ?_
      refine q_reg [] [(3, .int .i64 but), (4, .pointer (some ⟨b2, 0, none⟩)), (5, .pointer (some ⟨b4, 0, none⟩)), (9, vr2), (10, .int .i64 (i + 1))] ((True) ∧ (InR .i64 (i + 1)) ∧ (True) ∧ True) hA H ⟨trivial, ⟨by omega, by omega⟩, trivial, trivial⟩ fun a w70 hA H hG => ?_
      refine ⟨(i + 1, vr2, m2), ⟨env_sub _ hA, ⟨_, H⟩, ?_⟩, ?_⟩
      · (try dsimp only); exact ⟨by omega, by obtain ⟨_, r9, e9⟩ := hr2; rw [e9, List.length_append]; omega, hsp2, by rw [List.take_of_length_le (by omega)] at hm2; rw [hm2, ← spF_round h0 (by omega) (by omega)]; exact hsf⟩
      · (try dsimp only); omega
  · have hhb22 := of_decide_eq_false hb22
    refine go_exit 0 ?_
    refine hK14 _ _ ?_
    refine go_seq fun K71 hK71 => ?_
    refine q_reg [] [(8, vr)] ((True) ∧ (True) ∧ True) hA H ⟨trivial, trivial, trivial⟩ fun a w72 hA H hG => ?_
    refine hK71 _ _ ?_
    refine go_ret_ ?_
    refine ret_one 8 vr hA ?_
    have ho := (H.give 0 rfl)
    rw [spF_end (by omega)] at hsf; rw [hsf] at ho; exact ⟨_, rfl, ho, H.below⟩

end Go.Proofs.Ytahonnlgkmimlaa

set_option linter.unusedSimpArgs false
set_option linter.unusedVariables false
namespace Go.Proofs.Ytahonnlgkmimlaa
open Go.RowKit

set_option maxRecDepth 100000 in
set_option maxHeartbeats 4000000 in
theorem apart_any (n : Int) (ve : Value) (E : List (Int × Int)) (vv vl : Value) (V L : List Int) (v e f : Int) (w : World) (hn : -9223372036854775808 ≤ n ∧ n ≤ 9223372036854775807) (hE : Rd (· < w.heap.size) w ve E) (hV : Rd (· < w.heap.size) w vv V) (hL : Rd (· < w.heap.size) w vl L) (hpt : partE n E V L = 0) (he : e ∈ L) (hf : f ∈ L) :
  Calls Try.prog 106 [.agg #[.int .i64 n, ve], .agg #[vv, vl], .int .i64 v, .int .i64 e, .int .i64 f].toArray w (Ans (.bool (apartB E L v e f)) w) := by
  obtain ⟨hp1, hp2, hp3, hp4⟩ := partE_0 hpt
  have hr9 := rightE_0 hp1
  have he9 := (rises_iff.1 hp3).2 _ he
  have hf9 := (rises_iff.1 hp3).2 _ hf
  refine enter Try.f106 73 Try.func106 fun a hA => ?_
  replace hA := env_sub [(0, .agg #[.int .i64 n, ve]), (1, .agg #[vv, vl]), (2, .int .i64 v), (3, .int .i64 e), (4, .int .i64 f)] hA
  have H := Fr.start (org w)
  refine go_seq fun K1 hK1 => ?_
  refine region_list ?_
  refine list_at 0 ?_; refine q_box 0 5 24 (.tmp 0) (.agg #[.int .i64 n, ve]) [.int .i64 n, ve] [(1, .agg #[vv, vl]), (2, .int .i64 v), (3, .int .i64 e), (4, .int .i64 f)] hA H fun b2 a w3 H hA hG hge_b2 => ?_
  clear hge_b2
  refine list_at 1 ?_; refine q_box 1 6 29 (.tmp 1) (.agg #[vv, vl]) [vv, vl] [(2, .int .i64 v), (3, .int .i64 e), (4, .int .i64 f), (5, .pointer (some ⟨b2, 0, none⟩))] hA H fun b4 a w5 H hA hG hge_b4 => ?_
  clear hge_b4
  refine q_list 2 1 [] [(2, .int .i64 v), (3, .int .i64 e), (4, .int .i64 f), (5, .pointer (some ⟨b2, 0, none⟩)), (6, .pointer (some ⟨b4, 0, none⟩))] ((True) ∧ True) hA H ⟨trivial, trivial⟩ fun a w6 hA H hG => ?_
  refine list_end ?_
  refine hK1 _ _ ?_
  refine go_seq fun K7 hK7 => ?_
  have H0 := H
  have hM0 := H0.keeps none (.inl rfl)
  refine region_mix (But w6 none) [0, 1, 2, 3, 4, 5, 6, 7, 8, 9, 10, 11, 12] 14 ?_
  replace H := H.drawn; have hD := But.drew w6 none
  generalize ({ w6 with drawn := w6.drawn + 1 } : World) = w8 at H hD ⊢
  refine m_take (n := 4) [0, 1, 2, 3, 4, 5, 6, 7, 8, 9] #[true, true, true, true, true, true, true, true, true, true, false, false, false, false] [(16, ve), (19, .agg #[.int .i64 ((E.getD e.toNat (0, 0)).1), .int .i64 ((E.getD e.toNat (0, 0)).2)]), (21, ve), (24, .agg #[.int .i64 ((E.getD f.toNat (0, 0)).1), .int .i64 ((E.getD f.toNat (0, 0)).2)])] [(2, .int .i64 v), (3, .int .i64 e), (4, .int .i64 f), (5, .pointer (some ⟨b2, 0, none⟩)), (6, .pointer (some ⟨b4, 0, none⟩)), (19, .agg #[.int .i64 ((E.getD e.toNat (0, 0)).1), .int .i64 ((E.getD e.toNat (0, 0)).2)]), (24, .agg #[.int .i64 ((E.getD f.toNat (0, 0)).1), .int .i64 ((E.getD f.toNat (0, 0)).2)])] ((0 < Try.prog.cellsOf 22) ∧ (CellOk (But w6 none) b2 (0 + 1) (ve)) ∧ (True) ∧ ((Try.prog.info? 99).isSome = true ∧ IdxOk ve e) ∧ ((Try.prog.info? 99).isSome = true ∧ RowOk (But w6 none) (hdB ve) (hdO ve + e.toNat * 2) (Try.prog.cellsOf 99) #[.int .i64 ((E.getD e.toNat (0, 0)).1), .int .i64 ((E.getD e.toNat (0, 0)).2)]) ∧ (0 < Try.prog.cellsOf 22) ∧ (CellOk (But w6 none) b2 (0 + 1) (ve)) ∧ (True) ∧ ((Try.prog.info? 99).isSome = true ∧ IdxOk ve f) ∧ ((Try.prog.info? 99).isSome = true ∧ RowOk (But w6 none) (hdB ve) (hdO ve + f.toNat * 2) (Try.prog.cellsOf 99) #[.int .i64 ((E.getD f.toNat (0, 0)).1), .int .i64 ((E.getD f.toNat (0, 0)).2)]) ∧ True) hA hD ⟨by decide +kernel, by exact box_cellC (box_atC H0 none 1 rfl (fun e => by cases e)) 1, trivial, ⟨by kernel_rfl, by exact idx_ok (H0.argT hE) (by omega) (by omega)⟩, ⟨by kernel_rfl, by exact row_flatC hM0 (i := e) (H0.argT hE) (by omega) (by omega) (0, 0)⟩, by decide +kernel, by exact box_cellC (box_atC H0 none 1 rfl (fun e => by cases e)) 1, trivial, ⟨by kernel_rfl, by exact idx_ok (H0.argT hE) (by omega) (by omega)⟩, ⟨by kernel_rfl, by exact row_flatC hM0 (i := f) (H0.argT hE) (by omega) (by omega) (0, 0)⟩, trivial⟩ fun a hA => ?_
  refine mix_gen fun M hM => ?_
  have hM18 : ∀ (a : Act) (w23 : World) (S : Stab) (b9 : Nat) (hge_b9 : w6.heap.size ≤ b9) (b13 : Nat) (hge_b13 : w6.heap.size ≤ b13), EnvOk 73 a (keepEnv [(2, .int .i64 v), (3, .int .i64 e), (4, .int .i64 f), (5, .pointer (some ⟨b2, 0, none⟩)), (6, .pointer (some ⟨b4, 0, none⟩)), (11, .pointer (some ⟨b9, 0, none⟩)), (12, .pointer (some ⟨b13, 0, none⟩)), (24, .agg #[.int .i64 ((E.getD f.toNat (0, 0)).1), .int .i64 ((E.getD f.toNat (0, 0)).2)])]) → Fr (org w) w23 S [.box b13 99 [.int .i64 0, .int .i64 0], .box b9 99 [.int .i64 ((E.getD e.toNat (0, 0)).1), .int .i64 ((E.getD e.toNat (0, 0)).2)], .box b4 29 [vv, vl], .box b2 24 [.int .i64 n, ve]] → But w6 none w23 → M 1 #[true, true, true, true, true, true, true, true, true, true, true, true, true, false] a w23 := by
    intro a w23 S b9 hge_b9 b13 hge_b13 hA H hD
    refine (hM _ _ _ _).2 ?_
    refine m_one 13 ?_; refine q_store 13 99 (.tmp 12) (.tmp 24) 0 b13 (0) 99 [.int .i64 0, .int .i64 0] [.int .i64 ((E.getD f.toNat (0, 0)).1), .int .i64 ((E.getD f.toNat (0, 0)).2)] [.int .i64 ((E.getD f.toNat (0, 0)).1), .int .i64 ((E.getD f.toNat (0, 0)).2)] (.agg #[.int .i64 ((E.getD f.toNat (0, 0)).1), .int .i64 ((E.getD f.toNat (0, 0)).2)]) [(2, .int .i64 v), (3, .int .i64 e), (4, .int .i64 f), (5, .pointer (some ⟨b2, 0, none⟩)), (6, .pointer (some ⟨b4, 0, none⟩)), (11, .pointer (some ⟨b9, 0, none⟩)), (12, .pointer (some ⟨b13, 0, none⟩))] hA H rfl rfl (Nat.le_of_ble_eq_true (by kernel_rfl)) rfl (fun v hv => by simp only [List.mem_cons, List.not_mem_nil, or_false] at hv; rcases hv with rfl | rfl; exact rfl; exact rfl) fun a w24 H hA hG => ?_
    replace H : Fr _ _ _ [.box b13 99 [.int .i64 ((E.getD f.toNat (0, 0)).1), .int .i64 ((E.getD f.toNat (0, 0)).2)], .box b9 99 [.int .i64 ((E.getD e.toNat (0, 0)).1), .int .i64 ((E.getD e.toNat (0, 0)).2)], .box b4 29 [vv, vl], .box b2 24 [.int .i64 n, ve]] := H
    refine ⟨fun h => absurd h (by decide), ?_⟩
    refine m_end ?_
    refine hK7 _ _ ?_
    refine go_seq fun K25 hK25 => ?_
    refine go_seq fun K26 hK26 => ?_
    refine q_reg [] [(2, .int .i64 v), (5, .pointer (some ⟨b2, 0, none⟩)), (6, .pointer (some ⟨b4, 0, none⟩)), (11, .pointer (some ⟨b9, 0, none⟩)), (12, .pointer (some ⟨b13, 0, none⟩)), (27, .bool (decide (e = f)))] ((True) ∧ (True) ∧ (True) ∧ True) hA H ⟨trivial, trivial, trivial, trivial⟩ fun a w27 hA H hG => ?_
    refine hK26 _ _ ?_
    refine go_cond hA (.tmp 27) (decide (e = f)) (fun hb28 => ?_) (fun hb28 => ?_)
    · have hhb28 := of_decide_eq_true hb28
      refine go_seq fun K29 hK29 => ?_
      refine q_reg [] [(10, .bool false)] ((True) ∧ True) hA H ⟨trivial, trivial⟩ fun a w30 hA H hG => ?_
      refine hK29 _ _ ?_
      refine go_ret_ ?_
      refine ret_one 10 (.bool false) hA ?_
      exact ans_b' (by unfold apartB; rw [if_pos hhb28]) H.below
    · have hhb28 := of_decide_eq_false hb28
      refine go_skip ?_
      refine hK25 _ _ ?_
      refine go_seq fun K31 hK31 => ?_
      refine go_seq fun K32 hK32 => ?_
      refine q_reg [(29, .int .i64 ((E.getD e.toNat (0, 0)).1)), (34, .int .i64 ((E.getD e.toNat (0, 0)).2)), (40, .int .i64 ((E.getD f.toNat (0, 0)).1)), (45, .int .i64 ((E.getD f.toNat (0, 0)).2))] [(2, .int .i64 v), (5, .pointer (some ⟨b2, 0, none⟩)), (6, .pointer (some ⟨b4, 0, none⟩)), (11, .pointer (some ⟨b9, 0, none⟩)), (12, .pointer (some ⟨b13, 0, none⟩)), (49, .bool (((decide ((E.getD e.toNat (0, 0)).1 = v)) && (decide ((E.getD e.toNat (0, 0)).2 = v))) || ((decide ((E.getD f.toNat (0, 0)).1 = v)) && (decide ((E.getD f.toNat (0, 0)).2 = v)))))] ((0 < Try.prog.cellsOf 3) ∧ (CellOk (On w27) b9 (0 + 0) (.int .i64 ((E.getD e.toNat (0, 0)).1))) ∧ (True) ∧ (True) ∧ (True) ∧ ((decide ((E.getD e.toNat (0, 0)).1 = v)) = true → 0 < Try.prog.cellsOf 3) ∧ ((decide ((E.getD e.toNat (0, 0)).1 = v)) = true → CellOk (On w27) b9 (0 + 1) (.int .i64 ((E.getD e.toNat (0, 0)).2))) ∧ ((decide ((E.getD e.toNat (0, 0)).1 = v)) = true → True) ∧ ((decide ((E.getD e.toNat (0, 0)).1 = v)) = true → True) ∧ (True) ∧ (True) ∧ (((decide ((E.getD e.toNat (0, 0)).1 = v)) && (decide ((E.getD e.toNat (0, 0)).2 = v))) = false → 0 < Try.prog.cellsOf 3) ∧ (((decide ((E.getD e.toNat (0, 0)).1 = v)) && (decide ((E.getD e.toNat (0, 0)).2 = v))) = false → CellOk (On w27) b13 (0 + 0) (.int .i64 ((E.getD f.toNat (0, 0)).1))) ∧ (((decide ((E.getD e.toNat (0, 0)).1 = v)) && (decide ((E.getD e.toNat (0, 0)).2 = v))) = false → True) ∧ (((decide ((E.getD e.toNat (0, 0)).1 = v)) && (decide ((E.getD e.toNat (0, 0)).2 = v))) = false → True) ∧ (((decide ((E.getD e.toNat (0, 0)).1 = v)) && (decide ((E.getD e.toNat (0, 0)).2 = v))) = false → True) ∧ (((decide ((E.getD e.toNat (0, 0)).1 = v)) && (decide ((E.getD e.toNat (0, 0)).2 = v))) = false → (decide ((E.getD f.toNat (0, 0)).1 = v)) = true → 0 < Try.prog.cellsOf 3) ∧ (((decide ((E.getD e.toNat (0, 0)).1 = v)) && (decide ((E.getD e.toNat (0, 0)).2 = v))) = false → (decide ((E.getD f.toNat (0, 0)).1 = v)) = true → CellOk (On w27) b13 (0 + 1) (.int .i64 ((E.getD f.toNat (0, 0)).2))) ∧ (((decide ((E.getD e.toNat (0, 0)).1 = v)) && (decide ((E.getD e.toNat (0, 0)).2 = v))) = false → (decide ((E.getD f.toNat (0, 0)).1 = v)) = true → True) ∧ (((decide ((E.getD e.toNat (0, 0)).1 = v)) && (decide ((E.getD e.toNat (0, 0)).2 = v))) = false → (decide ((E.getD f.toNat (0, 0)).1 = v)) = true → True) ∧ (((decide ((E.getD e.toNat (0, 0)).1 = v)) && (decide ((E.getD e.toNat (0, 0)).2 = v))) = false → True) ∧ (True) ∧ True) hA H ⟨by decide +kernel, by exact box_cell H 1 rfl 0, trivial, trivial, trivial, fun _ => by decide +kernel, fun _ => by exact box_cell H 1 rfl 1, fun _ => trivial, fun _ => trivial, trivial, trivial, fun _ => by decide +kernel, fun _ => by exact box_cell H 0 rfl 0, fun _ => trivial, fun _ => trivial, fun _ => trivial, fun _ _ => by decide +kernel, fun _ _ => by exact box_cell H 0 rfl 1, fun _ _ => trivial, fun _ _ => trivial, fun _ => trivial, trivial, trivial⟩ fun a w33 hA H hG => ?_
      refine hK32 _ _ ?_
      refine go_cond hA (.tmp 49) (((decide ((E.getD e.toNat (0, 0)).1 = v)) && (decide ((E.getD e.toNat (0, 0)).2 = v))) || ((decide ((E.getD f.toNat (0, 0)).1 = v)) && (decide ((E.getD f.toNat (0, 0)).2 = v)))) (fun hb34 => ?_) (fun hb34 => ?_)
      · have hhb34 := (oT hb34).imp (fun h => (⟨of_decide_eq_true ((aT h).1), of_decide_eq_true ((aT h).2)⟩ : _ ∧ _)) (fun h => (⟨of_decide_eq_true ((aT h).1), of_decide_eq_true ((aT h).2)⟩ : _ ∧ _))
        refine go_seq fun K35 hK35 => ?_
        refine q_reg [] [(10, .bool true)] ((True) ∧ True) hA H ⟨trivial, trivial⟩ fun a w36 hA H hG => ?_
        refine hK35 _ _ ?_
        refine go_ret_ ?_
        refine ret_one 10 (.bool true) hA ?_
        exact ans_b' (by unfold apartB eA eB; rw [if_neg hhb28, if_pos (by have := hhb34; omega)]) H.below
      · have hhb34 := (⟨(aF ((oF hb34).1)).imp (fun h => of_decide_eq_false h) (fun h => of_decide_eq_false h), (aF ((oF hb34).2)).imp (fun h => of_decide_eq_false h) (fun h => of_decide_eq_false h)⟩ : _ ∧ _)
        refine go_skip ?_
        refine hK31 _ _ ?_
        refine go_seq fun K37 hK37 => ?_
        refine q_draw [(51, .int .i64 ((E.getD e.toNat (0, 0)).1)), (53, .int .i64 ((E.getD f.toNat (0, 0)).1))] [(2, .int .i64 v), (5, .pointer (some ⟨b2, 0, none⟩)), (6, .pointer (some ⟨b4, 0, none⟩)), (11, .pointer (some ⟨b9, 0, none⟩)), (12, .pointer (some ⟨b13, 0, none⟩)), (13, .int .i64 ((E.getD e.toNat (0, 0)).1)), (14, .int .i64 ((E.getD f.toNat (0, 0)).1))] ((0 < Try.prog.cellsOf 3) ∧ (CellOk (On w33) b9 (0 + 0) (.int .i64 ((E.getD e.toNat (0, 0)).1))) ∧ (0 < Try.prog.cellsOf 3) ∧ (CellOk (On w33) b13 (0 + 0) (.int .i64 ((E.getD f.toNat (0, 0)).1))) ∧ (True) ∧ (True) ∧ True) hA H ⟨by decide +kernel, by exact box_cell H 1 rfl 0, by decide +kernel, by exact box_cell H 0 rfl 0, trivial, trivial, trivial⟩ fun a w38 hA H hG => ?_
        refine hK37 _ _ ?_
        refine go_seq fun K39 hK39 => ?_
        refine go_seq fun K40 hK40 => ?_
        refine q_reg [] [(2, .int .i64 v), (5, .pointer (some ⟨b2, 0, none⟩)), (6, .pointer (some ⟨b4, 0, none⟩)), (11, .pointer (some ⟨b9, 0, none⟩)), (12, .pointer (some ⟨b13, 0, none⟩)), (13, .int .i64 ((E.getD e.toNat (0, 0)).1)), (14, .int .i64 ((E.getD f.toNat (0, 0)).1)), (56, .bool (decide ((E.getD e.toNat (0, 0)).1 = v)))] ((True) ∧ (True) ∧ (True) ∧ True) hA H ⟨trivial, trivial, trivial, trivial⟩ fun a w41 hA H hG => ?_
        refine hK40 _ _ ?_
        refine go_cond hA (.tmp 56) (decide ((E.getD e.toNat (0, 0)).1 = v)) (fun hb42 => ?_) (fun hb42 => ?_)
        · have hhb42 := of_decide_eq_true hb42
          refine q_reg [(58, .int .i64 ((E.getD e.toNat (0, 0)).2))] [(2, .int .i64 v), (5, .pointer (some ⟨b2, 0, none⟩)), (6, .pointer (some ⟨b4, 0, none⟩)), (12, .pointer (some ⟨b13, 0, none⟩)), (13, .int .i64 ((E.getD e.toNat (0, 0)).2)), (14, .int .i64 ((E.getD f.toNat (0, 0)).1))] ((0 < Try.prog.cellsOf 3) ∧ (CellOk (On w41) b9 (0 + 1) (.int .i64 ((E.getD e.toNat (0, 0)).2))) ∧ (True) ∧ True) hA H ⟨by decide +kernel, by exact box_cell H 1 rfl 1, trivial, trivial⟩ fun a w43 hA H hG => ?_
          refine hK39 _ _ ?_
          refine go_seq fun K44 hK44 => ?_
          refine go_seq fun K45 hK45 => ?_
          refine q_reg [] [(2, .int .i64 v), (5, .pointer (some ⟨b2, 0, none⟩)), (6, .pointer (some ⟨b4, 0, none⟩)), (12, .pointer (some ⟨b13, 0, none⟩)), (13, .int .i64 ((E.getD e.toNat (0, 0)).2)), (14, .int .i64 ((E.getD f.toNat (0, 0)).1)), (61, .bool (decide ((E.getD f.toNat (0, 0)).1 = v)))] ((True) ∧ (True) ∧ (True) ∧ True) hA H ⟨trivial, trivial, trivial, trivial⟩ fun a w46 hA H hG => ?_
          refine hK45 _ _ ?_
          refine go_cond hA (.tmp 61) (decide ((E.getD f.toNat (0, 0)).1 = v)) (fun hb47 => ?_) (fun hb47 => ?_)
          · have hhb47 := of_decide_eq_true hb47
            refine q_reg [(63, .int .i64 ((E.getD f.toNat (0, 0)).2))] [(2, .int .i64 v), (5, .pointer (some ⟨b2, 0, none⟩)), (6, .pointer (some ⟨b4, 0, none⟩)), (13, .int .i64 ((E.getD e.toNat (0, 0)).2)), (14, .int .i64 ((E.getD f.toNat (0, 0)).2))] ((0 < Try.prog.cellsOf 3) ∧ (CellOk (On w46) b13 (0 + 1) (.int .i64 ((E.getD f.toNat (0, 0)).2))) ∧ (True) ∧ True) hA H ⟨by decide +kernel, by exact box_cell H 0 rfl 1, trivial, trivial⟩ fun a w48 hA H hG => ?_
            refine hK44 _ _ ?_
            refine go_seq fun K49 hK49 => ?_
            refine region_list ?_
            refine q_list 0 3 [(64, .agg #[.int .i64 n, ve]), (65, .agg #[vv, vl])] [(2, .int .i64 v), (14, .int .i64 ((E.getD f.toNat (0, 0)).2)), (64, .agg #[.int .i64 n, ve]), (65, .agg #[vv, vl]), (66, .int .i64 ((E.getD e.toNat (0, 0)).2))] (((Try.prog.info? 24).isSome = true ∧ RowOk (On w48) b2 (0) (Try.prog.cellsOf 24) #[.int .i64 n, ve]) ∧ ((Try.prog.info? 29).isSome = true ∧ RowOk (On w48) b4 (0) (Try.prog.cellsOf 29) #[vv, vl]) ∧ (True) ∧ True) hA H ⟨⟨by kernel_rfl, by exact box_row H 3 rfl 0 2⟩, ⟨by kernel_rfl, by exact box_row H 2 rfl 0 2⟩, trivial, trivial⟩ fun a w50 hA H hG => ?_
            refine list_at 3 ?_; refine q_lit 3 67 27 1 #[(0, .tmp 66)] 3 [(0, .int .i64 ((E.getD e.toNat (0, 0)).2))] [.int .i64 ((E.getD e.toNat (0, 0)).2)] [(2, .int .i64 v), (14, .int .i64 ((E.getD f.toNat (0, 0)).2)), (64, .agg #[.int .i64 n, ve]), (65, .agg #[vv, vl])] hA H fun b51 a w52 H hA hG hge_b51 => ?_
            clear hge_b51
            refine q_list 4 1 [] [(14, .int .i64 ((E.getD f.toNat (0, 0)).2)), (64, .agg #[.int .i64 n, ve]), (65, .agg #[vv, vl]), (67, (.slice (some ⟨b51, 0, none⟩) 1 1)), (68, .int .i64 v)] ((True) ∧ True) hA H ⟨trivial, trivial⟩ fun a w53 hA H hG => ?_
            refine list_at 5 ?_; refine q_call 5 69 131 #[.tmp 64, .tmp 65, .tmp 67, .tmp 68] #[24, 29, 27, 3] [.agg #[.int .i64 n, ve], .agg #[vv, vl], (.slice (some ⟨b51, 0, none⟩) 1 1), .int .i64 v] (fun S v_ w' => Rd S w' v_ (spread E L ((E.getD e.toNat (0, 0)).2) v)) [(14, .int .i64 ((E.getD f.toNat (0, 0)).2))] hA H (by exact spread_any n ve E vv vl V L (.slice (some ⟨b51, 0, none⟩) 1 1) ((E.getD e.toNat (0, 0)).2) v H.at (by omega) ((H.arg hE)) ((H.arg hV)) ((H.arg hL)) ((H.lit 0 rfl (by exact (RowRd.single (α := Int) (a := (E.getD e.toNat (0, 0)).2) (by exact rfl))) rfl (by decide))) hpt (by omega) (by first | exact mem_endsL.2 ⟨_, he, .inl rfl⟩ | exact mem_endsL.2 ⟨_, he, .inr rfl⟩)) fun v54 a w55 S hR56 H hA hG => ?_
            replace H := H.ro hR56
            refine q_list 6 4 [(71, .bool (decide ((E.getD f.toNat (0, 0)).2 ∈ (spread E L ((E.getD e.toNat (0, 0)).2) v))))] [(10, .bool (!(decide ((E.getD f.toNat (0, 0)).2 ∈ (spread E L ((E.getD e.toNat (0, 0)).2) v)))))] ((True) ∧ (Callable Try.prog 24 ∧ CallOk Try.prog (On w55) 24 [v54, .int .i64 ((E.getD f.toNat (0, 0)).2)].toArray (.bool (decide ((E.getD f.toNat (0, 0)).2 ∈ (spread E L ((E.getD e.toNat (0, 0)).2) v))))) ∧ (True) ∧ (True) ∧ True) hA H ⟨trivial, ⟨callable_of, callOk_of fun w hw => by exact in_any v54 (spread E L ((E.getD e.toNat (0, 0)).2) v) ((E.getD f.toNat (0, 0)).2) w (((H.on hw).get 0 rfl))⟩, trivial, trivial, trivial⟩ fun a w58 hA H hG => ?_
            refine list_end ?_
            refine hK49 _ _ ?_
            refine go_ret_ ?_
            refine ret_one 10 (.bool (!(decide ((E.getD f.toNat (0, 0)).2 ∈ (spread E L ((E.getD e.toNat (0, 0)).2) v))))) hA ?_
            exact ans_b' (by unfold apartB otherE eA eB; rw [if_neg hhb28, if_neg (by have := hhb34; omega)]; first | rw [if_pos hhb47, if_pos hhb42] | rw [if_pos hhb47, if_neg hhb42] | rw [if_neg hhb47, if_pos hhb42] | rw [if_neg hhb47, if_neg hhb42]) H.below
          · have hhb47 := of_decide_eq_false hb47
            refine go_skip ?_
            refine hK44 _ _ ?_
            refine go_seq fun K59 hK59 => ?_
            refine region_list ?_
            refine q_list 0 3 [(64, .agg #[.int .i64 n, ve]), (65, .agg #[vv, vl])] [(2, .int .i64 v), (14, .int .i64 ((E.getD f.toNat (0, 0)).1)), (64, .agg #[.int .i64 n, ve]), (65, .agg #[vv, vl]), (66, .int .i64 ((E.getD e.toNat (0, 0)).2))] (((Try.prog.info? 24).isSome = true ∧ RowOk (On w46) b2 (0) (Try.prog.cellsOf 24) #[.int .i64 n, ve]) ∧ ((Try.prog.info? 29).isSome = true ∧ RowOk (On w46) b4 (0) (Try.prog.cellsOf 29) #[vv, vl]) ∧ (True) ∧ True) hA H ⟨⟨by kernel_rfl, by exact box_row H 3 rfl 0 2⟩, ⟨by kernel_rfl, by exact box_row H 2 rfl 0 2⟩, trivial, trivial⟩ fun a w60 hA H hG => ?_
            refine list_at 3 ?_; refine q_lit 3 67 27 1 #[(0, .tmp 66)] 3 [(0, .int .i64 ((E.getD e.toNat (0, 0)).2))] [.int .i64 ((E.getD e.toNat (0, 0)).2)] [(2, .int .i64 v), (14, .int .i64 ((E.getD f.toNat (0, 0)).1)), (64, .agg #[.int .i64 n, ve]), (65, .agg #[vv, vl])] hA H fun b61 a w62 H hA hG hge_b61 => ?_
            clear hge_b61
            refine q_list 4 1 [] [(14, .int .i64 ((E.getD f.toNat (0, 0)).1)), (64, .agg #[.int .i64 n, ve]), (65, .agg #[vv, vl]), (67, (.slice (some ⟨b61, 0, none⟩) 1 1)), (68, .int .i64 v)] ((True) ∧ True) hA H ⟨trivial, trivial⟩ fun a w63 hA H hG => ?_
            refine list_at 5 ?_; refine q_call 5 69 131 #[.tmp 64, .tmp 65, .tmp 67, .tmp 68] #[24, 29, 27, 3] [.agg #[.int .i64 n, ve], .agg #[vv, vl], (.slice (some ⟨b61, 0, none⟩) 1 1), .int .i64 v] (fun S v_ w' => Rd S w' v_ (spread E L ((E.getD e.toNat (0, 0)).2) v)) [(14, .int .i64 ((E.getD f.toNat (0, 0)).1))] hA H (by exact spread_any n ve E vv vl V L (.slice (some ⟨b61, 0, none⟩) 1 1) ((E.getD e.toNat (0, 0)).2) v H.at (by omega) ((H.arg hE)) ((H.arg hV)) ((H.arg hL)) ((H.lit 0 rfl (by exact (RowRd.single (α := Int) (a := (E.getD e.toNat (0, 0)).2) (by exact rfl))) rfl (by decide))) hpt (by omega) (by first | exact mem_endsL.2 ⟨_, he, .inl rfl⟩ | exact mem_endsL.2 ⟨_, he, .inr rfl⟩)) fun v64 a w65 S hR66 H hA hG => ?_
            replace H := H.ro hR66
            refine q_list 6 4 [(71, .bool (decide ((E.getD f.toNat (0, 0)).1 ∈ (spread E L ((E.getD e.toNat (0, 0)).2) v))))] [(10, .bool (!(decide ((E.getD f.toNat (0, 0)).1 ∈ (spread E L ((E.getD e.toNat (0, 0)).2) v)))))] ((True) ∧ (Callable Try.prog 24 ∧ CallOk Try.prog (On w65) 24 [v64, .int .i64 ((E.getD f.toNat (0, 0)).1)].toArray (.bool (decide ((E.getD f.toNat (0, 0)).1 ∈ (spread E L ((E.getD e.toNat (0, 0)).2) v))))) ∧ (True) ∧ (True) ∧ True) hA H ⟨trivial, ⟨callable_of, callOk_of fun w hw => by exact in_any v64 (spread E L ((E.getD e.toNat (0, 0)).2) v) ((E.getD f.toNat (0, 0)).1) w (((H.on hw).get 0 rfl))⟩, trivial, trivial, trivial⟩ fun a w68 hA H hG => ?_
            refine list_end ?_
            refine hK59 _ _ ?_
            refine go_ret_ ?_
            refine ret_one 10 (.bool (!(decide ((E.getD f.toNat (0, 0)).1 ∈ (spread E L ((E.getD e.toNat (0, 0)).2) v))))) hA ?_
            exact ans_b' (by unfold apartB otherE eA eB; rw [if_neg hhb28, if_neg (by have := hhb34; omega)]; first | rw [if_pos hhb47, if_pos hhb42] | rw [if_pos hhb47, if_neg hhb42] | rw [if_neg hhb47, if_pos hhb42] | rw [if_neg hhb47, if_neg hhb42]) H.below
        · have hhb42 := of_decide_eq_false hb42
          refine go_skip ?_
          refine hK39 _ _ ?_
          refine go_seq fun K69 hK69 => ?_
          refine go_seq fun K70 hK70 => ?_
          refine q_reg [] [(2, .int .i64 v), (5, .pointer (some ⟨b2, 0, none⟩)), (6, .pointer (some ⟨b4, 0, none⟩)), (12, .pointer (some ⟨b13, 0, none⟩)), (13, .int .i64 ((E.getD e.toNat (0, 0)).1)), (14, .int .i64 ((E.getD f.toNat (0, 0)).1)), (61, .bool (decide ((E.getD f.toNat (0, 0)).1 = v)))] ((True) ∧ (True) ∧ (True) ∧ True) hA H ⟨trivial, trivial, trivial, trivial⟩ fun a w71 hA H hG => ?_
          refine hK70 _ _ ?_
          refine go_cond hA (.tmp 61) (decide ((E.getD f.toNat (0, 0)).1 = v)) (fun hb72 => ?_) (fun hb72 => ?_)
          · have hhb72 := of_decide_eq_true hb72
            refine q_reg [(63, .int .i64 ((E.getD f.toNat (0, 0)).2))] [(2, .int .i64 v), (5, .pointer (some ⟨b2, 0, none⟩)), (6, .pointer (some ⟨b4, 0, none⟩)), (13, .int .i64 ((E.getD e.toNat (0, 0)).1)), (14, .int .i64 ((E.getD f.toNat (0, 0)).2))] ((0 < Try.prog.cellsOf 3) ∧ (CellOk (On w71) b13 (0 + 1) (.int .i64 ((E.getD f.toNat (0, 0)).2))) ∧ (True) ∧ True) hA H ⟨by decide +kernel, by exact box_cell H 0 rfl 1, trivial, trivial⟩ fun a w73 hA H hG => ?_
            refine hK69 _ _ ?_
            refine go_seq fun K74 hK74 => ?_
            refine region_list ?_
            refine q_list 0 3 [(64, .agg #[.int .i64 n, ve]), (65, .agg #[vv, vl])] [(2, .int .i64 v), (14, .int .i64 ((E.getD f.toNat (0, 0)).2)), (64, .agg #[.int .i64 n, ve]), (65, .agg #[vv, vl]), (66, .int .i64 ((E.getD e.toNat (0, 0)).1))] (((Try.prog.info? 24).isSome = true ∧ RowOk (On w73) b2 (0) (Try.prog.cellsOf 24) #[.int .i64 n, ve]) ∧ ((Try.prog.info? 29).isSome = true ∧ RowOk (On w73) b4 (0) (Try.prog.cellsOf 29) #[vv, vl]) ∧ (True) ∧ True) hA H ⟨⟨by kernel_rfl, by exact box_row H 3 rfl 0 2⟩, ⟨by kernel_rfl, by exact box_row H 2 rfl 0 2⟩, trivial, trivial⟩ fun a w75 hA H hG => ?_
            refine list_at 3 ?_; refine q_lit 3 67 27 1 #[(0, .tmp 66)] 3 [(0, .int .i64 ((E.getD e.toNat (0, 0)).1))] [.int .i64 ((E.getD e.toNat (0, 0)).1)] [(2, .int .i64 v), (14, .int .i64 ((E.getD f.toNat (0, 0)).2)), (64, .agg #[.int .i64 n, ve]), (65, .agg #[vv, vl])] hA H fun b76 a w77 H hA hG hge_b76 => ?_
            clear hge_b76
            refine q_list 4 1 [] [(14, .int .i64 ((E.getD f.toNat (0, 0)).2)), (64, .agg #[.int .i64 n, ve]), (65, .agg #[vv, vl]), (67, (.slice (some ⟨b76, 0, none⟩) 1 1)), (68, .int .i64 v)] ((True) ∧ True) hA H ⟨trivial, trivial⟩ fun a w78 hA H hG => ?_
            refine list_at 5 ?_; refine q_call 5 69 131 #[.tmp 64, .tmp 65, .tmp 67, .tmp 68] #[24, 29, 27, 3] [.agg #[.int .i64 n, ve], .agg #[vv, vl], (.slice (some ⟨b76, 0, none⟩) 1 1), .int .i64 v] (fun S v_ w' => Rd S w' v_ (spread E L ((E.getD e.toNat (0, 0)).1) v)) [(14, .int .i64 ((E.getD f.toNat (0, 0)).2))] hA H (by exact spread_any n ve E vv vl V L (.slice (some ⟨b76, 0, none⟩) 1 1) ((E.getD e.toNat (0, 0)).1) v H.at (by omega) ((H.arg hE)) ((H.arg hV)) ((H.arg hL)) ((H.lit 0 rfl (by exact (RowRd.single (α := Int) (a := (E.getD e.toNat (0, 0)).1) (by exact rfl))) rfl (by decide))) hpt (by omega) (by first | exact mem_endsL.2 ⟨_, he, .inl rfl⟩ | exact mem_endsL.2 ⟨_, he, .inr rfl⟩)) fun v79 a w80 S hR81 H hA hG => ?_
            replace H := H.ro hR81
            refine q_list 6 4 [(71, .bool (decide ((E.getD f.toNat (0, 0)).2 ∈ (spread E L ((E.getD e.toNat (0, 0)).1) v))))] [(10, .bool (!(decide ((E.getD f.toNat (0, 0)).2 ∈ (spread E L ((E.getD e.toNat (0, 0)).1) v)))))] ((True) ∧ (Callable Try.prog 24 ∧ CallOk Try.prog (On w80) 24 [v79, .int .i64 ((E.getD f.toNat (0, 0)).2)].toArray (.bool (decide ((E.getD f.toNat (0, 0)).2 ∈ (spread E L ((E.getD e.toNat (0, 0)).1) v))))) ∧ (True) ∧ (True) ∧ True) hA H ⟨trivial, ⟨callable_of, callOk_of fun w hw => by exact in_any v79 (spread E L ((E.getD e.toNat (0, 0)).1) v) ((E.getD f.toNat (0, 0)).2) w (((H.on hw).get 0 rfl))⟩, trivial, trivial, trivial⟩ fun a w83 hA H hG => ?_
            refine list_end ?_
            refine hK74 _ _ ?_
            refine go_ret_ ?_
            refine ret_one 10 (.bool (!(decide ((E.getD f.toNat (0, 0)).2 ∈ (spread E L ((E.getD e.toNat (0, 0)).1) v))))) hA ?_
            exact ans_b' (by unfold apartB otherE eA eB; rw [if_neg hhb28, if_neg (by have := hhb34; omega)]; first | rw [if_pos hhb72, if_pos hhb42] | rw [if_pos hhb72, if_neg hhb42] | rw [if_neg hhb72, if_pos hhb42] | rw [if_neg hhb72, if_neg hhb42]) H.below
          · have hhb72 := of_decide_eq_false hb72
            refine go_skip ?_
            refine hK69 _ _ ?_
            refine go_seq fun K84 hK84 => ?_
            refine region_list ?_
            refine q_list 0 3 [(64, .agg #[.int .i64 n, ve]), (65, .agg #[vv, vl])] [(2, .int .i64 v), (14, .int .i64 ((E.getD f.toNat (0, 0)).1)), (64, .agg #[.int .i64 n, ve]), (65, .agg #[vv, vl]), (66, .int .i64 ((E.getD e.toNat (0, 0)).1))] (((Try.prog.info? 24).isSome = true ∧ RowOk (On w71) b2 (0) (Try.prog.cellsOf 24) #[.int .i64 n, ve]) ∧ ((Try.prog.info? 29).isSome = true ∧ RowOk (On w71) b4 (0) (Try.prog.cellsOf 29) #[vv, vl]) ∧ (True) ∧ True) hA H ⟨⟨by kernel_rfl, by exact box_row H 3 rfl 0 2⟩, ⟨by kernel_rfl, by exact box_row H 2 rfl 0 2⟩, trivial, trivial⟩ fun a w85 hA H hG => ?_
            refine list_at 3 ?_; refine q_lit 3 67 27 1 #[(0, .tmp 66)] 3 [(0, .int .i64 ((E.getD e.toNat (0, 0)).1))] [.int .i64 ((E.getD e.toNat (0, 0)).1)] [(2, .int .i64 v), (14, .int .i64 ((E.getD f.toNat (0, 0)).1)), (64, .agg #[.int .i64 n, ve]), (65, .agg #[vv, vl])] hA H fun b86 a w87 H hA hG hge_b86 => ?_
            clear hge_b86
            refine q_list 4 1 [] [(14, .int .i64 ((E.getD f.toNat (0, 0)).1)), (64, .agg #[.int .i64 n, ve]), (65, .agg #[vv, vl]), (67, (.slice (some ⟨b86, 0, none⟩) 1 1)), (68, .int .i64 v)] ((True) ∧ True) hA H ⟨trivial, trivial⟩ fun a w88 hA H hG => ?_
            refine list_at 5 ?_; refine q_call 5 69 131 #[.tmp 64, .tmp 65, .tmp 67, .tmp 68] #[24, 29, 27, 3] [.agg #[.int .i64 n, ve], .agg #[vv, vl], (.slice (some ⟨b86, 0, none⟩) 1 1), .int .i64 v] (fun S v_ w' => Rd S w' v_ (spread E L ((E.getD e.toNat (0, 0)).1) v)) [(14, .int .i64 ((E.getD f.toNat (0, 0)).1))] hA H (by exact spread_any n ve E vv vl V L (.slice (some ⟨b86, 0, none⟩) 1 1) ((E.getD e.toNat (0, 0)).1) v H.at (by omega) ((H.arg hE)) ((H.arg hV)) ((H.arg hL)) ((H.lit 0 rfl (by exact (RowRd.single (α := Int) (a := (E.getD e.toNat (0, 0)).1) (by exact rfl))) rfl (by decide))) hpt (by omega) (by first | exact mem_endsL.2 ⟨_, he, .inl rfl⟩ | exact mem_endsL.2 ⟨_, he, .inr rfl⟩)) fun v89 a w90 S hR91 H hA hG => ?_
            replace H := H.ro hR91
            refine q_list 6 4 [(71, .bool (decide ((E.getD f.toNat (0, 0)).1 ∈ (spread E L ((E.getD e.toNat (0, 0)).1) v))))] [(10, .bool (!(decide ((E.getD f.toNat (0, 0)).1 ∈ (spread E L ((E.getD e.toNat (0, 0)).1) v)))))] ((True) ∧ (Callable Try.prog 24 ∧ CallOk Try.prog (On w90) 24 [v89, .int .i64 ((E.getD f.toNat (0, 0)).1)].toArray (.bool (decide ((E.getD f.toNat (0, 0)).1 ∈ (spread E L ((E.getD e.toNat (0, 0)).1) v))))) ∧ (True) ∧ (True) ∧ True) hA H ⟨trivial, ⟨callable_of, callOk_of fun w hw => by exact in_any v89 (spread E L ((E.getD e.toNat (0, 0)).1) v) ((E.getD f.toNat (0, 0)).1) w (((H.on hw).get 0 rfl))⟩, trivial, trivial, trivial⟩ fun a w93 hA H hG => ?_
            refine list_end ?_
            refine hK84 _ _ ?_
            refine go_ret_ ?_
            refine ret_one 10 (.bool (!(decide ((E.getD f.toNat (0, 0)).1 ∈ (spread E L ((E.getD e.toNat (0, 0)).1) v))))) hA ?_
            exact ans_b' (by unfold apartB otherE eA eB; rw [if_neg hhb28, if_neg (by have := hhb34; omega)]; first | rw [if_pos hhb72, if_pos hhb42] | rw [if_pos hhb72, if_neg hhb42] | rw [if_neg hhb72, if_pos hhb42] | rw [if_neg hhb72, if_neg hhb42]) H.below
  have hM19 : ∀ (a : Act) (w94 : World) (S : Stab) (b9 : Nat) (hge_b9 : w6.heap.size ≤ b9) (b13 : Nat) (hge_b13 : w6.heap.size ≤ b13), EnvOk 73 a (keepEnv [(2, .int .i64 v), (3, .int .i64 e), (4, .int .i64 f), (5, .pointer (some ⟨b2, 0, none⟩)), (6, .pointer (some ⟨b4, 0, none⟩)), (11, .pointer (some ⟨b9, 0, none⟩)), (12, .pointer (some ⟨b13, 0, none⟩)), (19, .agg #[.int .i64 ((E.getD e.toNat (0, 0)).1), .int .i64 ((E.getD e.toNat (0, 0)).2)]), (24, .agg #[.int .i64 ((E.getD f.toNat (0, 0)).1), .int .i64 ((E.getD f.toNat (0, 0)).2)])]) → Fr (org w) w94 S [.box b13 99 [.int .i64 0, .int .i64 0], .box b9 99 [.int .i64 0, .int .i64 0], .box b4 29 [vv, vl], .box b2 24 [.int .i64 n, ve]] → But w6 none w94 → M 2 #[true, true, true, true, true, true, true, true, true, true, true, true, false, false] a w94 := by
    intro a w94 S b9 hge_b9 b13 hge_b13 hA H hD
    refine (hM _ _ _ _).2 ?_
    refine m_one 12 ?_; refine q_store 12 99 (.tmp 11) (.tmp 19) 1 b9 (0) 99 [.int .i64 0, .int .i64 0] [.int .i64 ((E.getD e.toNat (0, 0)).1), .int .i64 ((E.getD e.toNat (0, 0)).2)] [.int .i64 ((E.getD e.toNat (0, 0)).1), .int .i64 ((E.getD e.toNat (0, 0)).2)] (.agg #[.int .i64 ((E.getD e.toNat (0, 0)).1), .int .i64 ((E.getD e.toNat (0, 0)).2)]) [(2, .int .i64 v), (3, .int .i64 e), (4, .int .i64 f), (5, .pointer (some ⟨b2, 0, none⟩)), (6, .pointer (some ⟨b4, 0, none⟩)), (11, .pointer (some ⟨b9, 0, none⟩)), (12, .pointer (some ⟨b13, 0, none⟩)), (24, .agg #[.int .i64 ((E.getD f.toNat (0, 0)).1), .int .i64 ((E.getD f.toNat (0, 0)).2)])] hA H rfl rfl (Nat.le_of_ble_eq_true (by kernel_rfl)) rfl (fun v hv => by simp only [List.mem_cons, List.not_mem_nil, or_false] at hv; rcases hv with rfl | rfl; exact rfl; exact rfl) fun a w95 H hA hG => ?_
    replace H : Fr _ _ _ [.box b13 99 [.int .i64 0, .int .i64 0], .box b9 99 [.int .i64 ((E.getD e.toNat (0, 0)).1), .int .i64 ((E.getD e.toNat (0, 0)).2)], .box b4 29 [vv, vl], .box b2 24 [.int .i64 n, ve]] := H
    replace hD := hD.grown hG (fun b_ hb_ => .inr (by cases hb_; assumption))
    refine ⟨fun _ => hD, ?_⟩
    exact (hM _ _ _ _).1 (hM18 _ _ _ b9 hge_b9 b13 hge_b13 (env_sub _ hA) H hD)
  have hM20 : ∀ (a : Act) (w96 : World) (S : Stab) (b9 : Nat) (hge_b9 : w6.heap.size ≤ b9), EnvOk 73 a (keepEnv [(2, .int .i64 v), (3, .int .i64 e), (4, .int .i64 f), (5, .pointer (some ⟨b2, 0, none⟩)), (6, .pointer (some ⟨b4, 0, none⟩)), (11, .pointer (some ⟨b9, 0, none⟩)), (19, .agg #[.int .i64 ((E.getD e.toNat (0, 0)).1), .int .i64 ((E.getD e.toNat (0, 0)).2)]), (24, .agg #[.int .i64 ((E.getD f.toNat (0, 0)).1), .int .i64 ((E.getD f.toNat (0, 0)).2)])]) → Fr (org w) w96 S [.box b9 99 [.int .i64 0, .int .i64 0], .box b4 29 [vv, vl], .box b2 24 [.int .i64 n, ve]] → But w6 none w96 → M 3 #[true, true, true, true, true, true, true, true, true, true, true, false, false, false] a w96 := by
    intro a w96 S b9 hge_b9 hA H hD
    refine (hM _ _ _ _).2 ?_
    refine m_one 11 ?_; refine q_alloc 11 12 99 [.int .i64 0, .int .i64 0] [(2, .int .i64 v), (3, .int .i64 e), (4, .int .i64 f), (5, .pointer (some ⟨b2, 0, none⟩)), (6, .pointer (some ⟨b4, 0, none⟩)), (11, .pointer (some ⟨b9, 0, none⟩)), (19, .agg #[.int .i64 ((E.getD e.toNat (0, 0)).1), .int .i64 ((E.getD e.toNat (0, 0)).2)]), (24, .agg #[.int .i64 ((E.getD f.toNat (0, 0)).1), .int .i64 ((E.getD f.toNat (0, 0)).2)])] hA H fun b97 a w98 H hA hG hge_b97 => ?_
    replace hge_b97 := Nat.le_trans hD.1 hge_b97
    replace hD := hD.below hG
    refine ⟨fun _ => hD, ?_⟩
    exact (hM _ _ _ _).1 (hM19 _ _ _ b9 hge_b9 b97 hge_b97 (env_sub _ hA) H hD)
  have hM21 : ∀ (a : Act) (w99 : World) (S : Stab) (b11 : Nat) (hge_b11 : w6.heap.size ≤ b11), EnvOk 73 a (keepEnv [(2, .int .i64 v), (3, .int .i64 e), (4, .int .i64 f), (5, .pointer (some ⟨b2, 0, none⟩)), (6, .pointer (some ⟨b4, 0, none⟩)), (12, .pointer (some ⟨b11, 0, none⟩)), (19, .agg #[.int .i64 ((E.getD e.toNat (0, 0)).1), .int .i64 ((E.getD e.toNat (0, 0)).2)]), (24, .agg #[.int .i64 ((E.getD f.toNat (0, 0)).1), .int .i64 ((E.getD f.toNat (0, 0)).2)])]) → Fr (org w) w99 S [.box b11 99 [.int .i64 0, .int .i64 0], .box b4 29 [vv, vl], .box b2 24 [.int .i64 n, ve]] → But w6 none w99 → M 3 #[true, true, true, true, true, true, true, true, true, true, false, true, false, false] a w99 := by
    intro a w99 S b11 hge_b11 hA H hD
    refine (hM _ _ _ _).2 ?_
    refine m_one 10 ?_; refine q_alloc 10 11 99 [.int .i64 0, .int .i64 0] [(2, .int .i64 v), (3, .int .i64 e), (4, .int .i64 f), (5, .pointer (some ⟨b2, 0, none⟩)), (6, .pointer (some ⟨b4, 0, none⟩)), (12, .pointer (some ⟨b11, 0, none⟩)), (19, .agg #[.int .i64 ((E.getD e.toNat (0, 0)).1), .int .i64 ((E.getD e.toNat (0, 0)).2)]), (24, .agg #[.int .i64 ((E.getD f.toNat (0, 0)).1), .int .i64 ((E.getD f.toNat (0, 0)).2)])] hA H fun b100 a w101 H hA hG hge_b100 => ?_
    replace hge_b100 := Nat.le_trans hD.1 hge_b100
    replace H : Fr _ _ _ [.box b11 99 [.int .i64 0, .int .i64 0], .box b100 99 [.int .i64 0, .int .i64 0], .box b4 29 [vv, vl], .box b2 24 [.int .i64 n, ve]] := H.sink 1 1
    replace hD := hD.below hG
    refine ⟨fun _ => hD, ?_⟩
    exact (hM _ _ _ _).1 (hM19 _ _ _ b100 hge_b100 b11 hge_b11 (env_sub _ hA) H hD)
  have hM22 : ∀ (a : Act) (w102 : World) (S : Stab), EnvOk 73 a (keepEnv [(2, .int .i64 v), (3, .int .i64 e), (4, .int .i64 f), (5, .pointer (some ⟨b2, 0, none⟩)), (6, .pointer (some ⟨b4, 0, none⟩)), (19, .agg #[.int .i64 ((E.getD e.toNat (0, 0)).1), .int .i64 ((E.getD e.toNat (0, 0)).2)]), (24, .agg #[.int .i64 ((E.getD f.toNat (0, 0)).1), .int .i64 ((E.getD f.toNat (0, 0)).2)])]) → Fr (org w) w102 S [.box b4 29 [vv, vl], .box b2 24 [.int .i64 n, ve]] → But w6 none w102 → M 4 #[true, true, true, true, true, true, true, true, true, true, false, false, false, false] a w102 := by
    intro a w102 S  hA H hD
    refine (hM _ _ _ _).2 ?_
    refine m_many [10, 11] fun i_ hi_ => ?_
    simp only [List.mem_cons, List.not_mem_nil, or_false] at hi_
    rcases hi_ with rfl | rfl
    · skip
      refine q_alloc 10 11 99 [.int .i64 0, .int .i64 0] [(2, .int .i64 v), (3, .int .i64 e), (4, .int .i64 f), (5, .pointer (some ⟨b2, 0, none⟩)), (6, .pointer (some ⟨b4, 0, none⟩)), (19, .agg #[.int .i64 ((E.getD e.toNat (0, 0)).1), .int .i64 ((E.getD e.toNat (0, 0)).2)]), (24, .agg #[.int .i64 ((E.getD f.toNat (0, 0)).1), .int .i64 ((E.getD f.toNat (0, 0)).2)])] hA H fun b103 a w104 H hA hG hge_b103 => ?_
      replace hge_b103 := Nat.le_trans hD.1 hge_b103
      replace hD := hD.below hG
      refine ⟨fun _ => hD, ?_⟩
      exact (hM _ _ _ _).1 (hM20 _ _ _ b103 hge_b103 (env_sub _ hA) H hD)
    · skip
      refine q_alloc 11 12 99 [.int .i64 0, .int .i64 0] [(2, .int .i64 v), (3, .int .i64 e), (4, .int .i64 f), (5, .pointer (some ⟨b2, 0, none⟩)), (6, .pointer (some ⟨b4, 0, none⟩)), (19, .agg #[.int .i64 ((E.getD e.toNat (0, 0)).1), .int .i64 ((E.getD e.toNat (0, 0)).2)]), (24, .agg #[.int .i64 ((E.getD f.toNat (0, 0)).1), .int .i64 ((E.getD f.toNat (0, 0)).2)])] hA H fun b105 a w106 H hA hG hge_b105 => ?_
      replace hge_b105 := Nat.le_trans hD.1 hge_b105
      replace hD := hD.below hG
      refine ⟨fun _ => hD, ?_⟩
      exact (hM _ _ _ _).1 (hM21 _ _ _ b105 hge_b105 (env_sub _ hA) H hD)
  exact hM22 _ _ _ (env_sub _ hA) H hD

set_option maxRecDepth 100000 in
set_option maxHeartbeats 1000000 in
theorem tog_any (n : Int) (ve : Value) (E : List (Int × Int)) (vv vl : Value) (V L : List Int) (e f : Int) (w : World) (hn : -9223372036854775808 ≤ n ∧ n ≤ 9223372036854775807) (hE : Rd (· < w.heap.size) w ve E) (hV : Rd (· < w.heap.size) w vv V) (hL : Rd (· < w.heap.size) w vl L) (hpt : partE n E V L = 0) (he : e ∈ L) (hf : f ∈ L) :
  Calls Try.prog 84 [.agg #[.int .i64 n, ve], .agg #[vv, vl], .int .i64 e, .int .i64 f].toArray w (Ans (.bool (togB E V L e f)) w) := by
  obtain ⟨hp1, hp2, hp3, hp4⟩ := partE_0 hpt
  have hr9 := rightE_0 hp1
  have hv9 := rises_len hp2 (by omega)
  refine enter Try.f84 27 Try.func84 fun a hA => ?_
  replace hA := env_sub [(0, .agg #[.int .i64 n, ve]), (1, .agg #[vv, vl]), (2, .int .i64 e), (3, .int .i64 f)] hA
  have H := Fr.start (org w)
  refine go_seq fun K1 hK1 => ?_
  refine region_list ?_
  refine list_at 0 ?_; refine q_box 0 4 24 (.tmp 0) (.agg #[.int .i64 n, ve]) [.int .i64 n, ve] [(1, .agg #[vv, vl]), (2, .int .i64 e), (3, .int .i64 f)] hA H fun b2 a w3 H hA hG hge_b2 => ?_
  clear hge_b2
  refine list_at 1 ?_; refine q_box 1 5 29 (.tmp 1) (.agg #[vv, vl]) [vv, vl] [(2, .int .i64 e), (3, .int .i64 f), (4, .pointer (some ⟨b2, 0, none⟩))] hA H fun b4 a w5 H hA hG hge_b4 => ?_
  clear hge_b4
  refine q_list 2 1 [] [(2, .int .i64 e), (3, .int .i64 f), (4, .pointer (some ⟨b2, 0, none⟩)), (5, .pointer (some ⟨b4, 0, none⟩))] ((True) ∧ True) hA H ⟨trivial, trivial⟩ fun a w6 hA H hG => ?_
  refine list_end ?_
  refine hK1 _ _ ?_
  refine go_seq fun K7 hK7 => ?_
  refine go_seq fun K8 hK8 => ?_
  refine q_reg [] [(2, .int .i64 e), (3, .int .i64 f), (4, .pointer (some ⟨b2, 0, none⟩)), (5, .pointer (some ⟨b4, 0, none⟩)), (9, .int .i64 0)] ((True) ∧ True) hA H ⟨trivial, trivial⟩ fun a w9 hA H hG => ?_
  refine hK8 _ _ ?_
  refine go_block 0 ?_
  refine go_loop_ (Int) (fun x_ a W => (fun (i : Int) => EnvOk 27 a (keepEnv [(2, .int .i64 e), (3, .int .i64 f), (4, .pointer (some ⟨b2, 0, none⟩)), (5, .pointer (some ⟨b4, 0, none⟩)), (9, .int .i64 i)]) ∧ (∃ S, Fr (org w) W S [.box b4 29 [vv, vl], .box b2 24 [.int .i64 n, ve]]) ∧ 0 ≤ i ∧ ∀ j : Nat, (j : Int) < i → apartB E L (V.getD j 0) e f = false) x_) (fun x_ => (fun (i : Int) => ((V.length : Int) - i).toNat) x_) (0) ?_ (fun i a w11 hI => ?_)
  · (try dsimp only); exact ⟨env_sub _ hA, ⟨_, H⟩, by omega, fun j hj => by omega⟩
  obtain ⟨hA, ⟨S, H⟩, h0, hok⟩ := hI
  try dsimp only at h0 hok
  refine go_seq fun K12 hK12 => ?_
  refine go_seq fun K13 hK13 => ?_
  refine q_reg [(12, vv), (13, .int .i64 (V.length : Int))] [(2, .int .i64 e), (3, .int .i64 f), (4, .pointer (some ⟨b2, 0, none⟩)), (5, .pointer (some ⟨b4, 0, none⟩)), (9, .int .i64 i), (14, .bool (decide (i < (V.length : Int))))] ((True) ∧ (0 < Try.prog.cellsOf 27) ∧ (CellOk (On w11) b4 (0 + 0) (vv)) ∧ (LenOk vv (V.length : Int)) ∧ (True) ∧ True) hA H ⟨trivial, by decide +kernel, by exact box_cell H 0 rfl 0, by exact len_ok (H.arg hV), trivial, trivial⟩ fun a w14 hA H hG => ?_
  refine hK13 _ _ ?_
  refine go_cond hA (.tmp 14) (decide (i < (V.length : Int))) (fun hb15 => ?_) (fun hb15 => ?_)
  · have hhb15 := of_decide_eq_true hb15
    refine go_skip ?_
    refine hK12 _ _ ?_
    refine go_seq fun K16 hK16 => ?_
    refine go_block 1 ?_
    refine go_seq fun K17 hK17 => ?_
    refine q_draw [(17, .agg #[.int .i64 n, ve]), (18, .agg #[vv, vl]), (20, vv), (23, .int .i64 (V.getD i.toNat 0)), (26, .bool (apartB E L (V.getD i.toNat 0) e f))] [(2, .int .i64 e), (3, .int .i64 f), (4, .pointer (some ⟨b2, 0, none⟩)), (5, .pointer (some ⟨b4, 0, none⟩)), (9, .int .i64 i), (26, .bool (apartB E L (V.getD i.toNat 0) e f))] (((Try.prog.info? 24).isSome = true ∧ RowOk (On w14) b2 (0) (Try.prog.cellsOf 24) #[.int .i64 n, ve]) ∧ ((Try.prog.info? 29).isSome = true ∧ RowOk (On w14) b4 (0) (Try.prog.cellsOf 29) #[vv, vl]) ∧ (0 < Try.prog.cellsOf 27) ∧ (CellOk (On w14) b4 (0 + 0) (vv)) ∧ (True) ∧ ((Try.prog.info? 3).isSome = true ∧ IdxOk vv i) ∧ (CellOk (On w14) (hdB vv) (hdO vv + i.toNat * 1) (.int .i64 (V.getD i.toNat 0))) ∧ (True) ∧ (True) ∧ (Callable Try.prog 106 ∧ CallOk Try.prog (On w14) 106 [.agg #[.int .i64 n, ve], .agg #[vv, vl], .int .i64 (V.getD i.toNat 0), .int .i64 e, .int .i64 f].toArray (.bool (apartB E L (V.getD i.toNat 0) e f))) ∧ True) hA H ⟨⟨by kernel_rfl, by exact box_row H 1 rfl 0 2⟩, ⟨by kernel_rfl, by exact box_row H 0 rfl 0 2⟩, by decide +kernel, by exact box_cell H 0 rfl 0, trivial, ⟨by kernel_rfl, by exact idx_ok (H.arg hV) (by omega) (by omega)⟩, by exact cell_flat (i := i) (H.arg hV) (by omega) (by omega) 0 0, trivial, trivial, ⟨callable_of, callOk_of fun w hw => by exact apart_any n ve E vv vl V L (V.getD i.toNat 0) e f w (by omega) (((H.on hw).arg hE)) (((H.on hw).arg hV)) (((H.on hw).arg hL)) hpt he hf⟩, trivial⟩ fun a w18 hA H hG => ?_
    refine hK17 _ _ ?_
    refine go_cond hA (.tmp 26) (apartB E L (V.getD i.toNat 0) e f) (fun hb19 => ?_) (fun hb19 => ?_)
    · have hhb19 := hb19
      refine go_seq fun K20 hK20 => ?_
      refine q_reg [] [(8, .bool false)] ((True) ∧ True) hA H ⟨trivial, trivial⟩ fun a w21 hA H hG => ?_
      refine hK20 _ _ ?_
      refine go_ret_ ?_
      refine ret_one 8 (.bool false) hA ?_
      exact ans_b' (by unfold togB; exact (decide_eq_false (fun q => by have z := q i.toNat (by omega); rw [z] at hhb19; cases hhb19)).symm) H.below
    · have hhb19 := hb19
      refine go_skip ?_
      refine hK16 _ _ ?_
      refine q_reg [] [(2, .int .i64 e), (3, .int .i64 f), (4, .pointer (some ⟨b2, 0, none⟩)), (5, .pointer (some ⟨b4, 0, none⟩)), (9, .int .i64 (i + 1))] ((True) ∧ (InR .i64 (i + 1)) ∧ (True) ∧ True) hA H ⟨trivial, ⟨by omega, by omega⟩, trivial, trivial⟩ fun a w22 hA H hG => ?_
      refine ⟨(i + 1), ⟨env_sub _ hA, ⟨_, H⟩, ?_⟩, ?_⟩
      · (try dsimp only); exact ⟨by omega, fun j hj => if q : (j : Int) = i then (by rw [show j = i.toNat by omega]; exact hhb19) else hok j (by omega)⟩
      · (try dsimp only); omega
  · have hhb15 := of_decide_eq_false hb15
    refine go_exit 0 ?_
    refine hK7 _ _ ?_
    refine go_seq fun K23 hK23 => ?_
    refine q_reg [] [(8, .bool true)] ((True) ∧ True) hA H ⟨trivial, trivial⟩ fun a w24 hA H hG => ?_
    refine hK23 _ _ ?_
    refine go_ret_ ?_
    refine ret_one 8 (.bool true) hA ?_
    exact ans_b' (by unfold togB; exact (decide_eq_true (fun j hj => hok j (by omega))).symm) H.below

end Go.Proofs.Ytahonnlgkmimlaa

set_option linter.unusedSimpArgs false
set_option linter.unusedVariables false
namespace Go.Proofs.Ytahonnlgkmimlaa
open Go.RowKit

set_option maxRecDepth 100000 in
set_option maxHeartbeats 4000000 in
theorem rblocks_any (n : Int) (ve : Value) (E : List (Int × Int)) (vv vl : Value) (V L : List Int) (o : Orig) (hn : -9223372036854775808 ≤ n ∧ n ≤ 9223372036854775807) (hE : Rd (· < o.w.heap.size) o.w ve E) (hV : Rd (· < o.w.heap.size) o.w vv V) (hL : Rd (· < o.w.heap.size) o.w vl L) (hpt : partE n E V L = 0) :
  Calls Try.prog 51 [.agg #[.int .i64 n, ve], .agg #[vv, vl]].toArray o.w (Giv o (fun S v w' => Rd S w' v (blocksL n E V L))) := by
  obtain ⟨hp1, hp2, hp3, hp4⟩ := partE_0 hpt
  have hr9 := rightE_0 hp1
  have hl9 := rises_len hp3 (by omega)
  refine enter Try.f51 60 Try.func51 fun a hA => ?_
  replace hA := env_sub [(0, .agg #[.int .i64 n, ve]), (1, .agg #[vv, vl])] hA
  have H := Fr.start o
  refine go_seq fun K1 hK1 => ?_
  refine region_list ?_
  refine list_at 0 ?_; refine q_box 0 2 24 (.tmp 0) (.agg #[.int .i64 n, ve]) [.int .i64 n, ve] [(1, .agg #[vv, vl])] hA H fun b2 a w3 H hA hG hge_b2 => ?_
  clear hge_b2
  refine list_at 1 ?_; refine q_box 1 3 29 (.tmp 1) (.agg #[vv, vl]) [vv, vl] [(2, .pointer (some ⟨b2, 0, none⟩))] hA H fun b4 a w5 H hA hG hge_b4 => ?_
  clear hge_b4
  refine q_list 2 1 [] [(2, .pointer (some ⟨b2, 0, none⟩)), (3, .pointer (some ⟨b4, 0, none⟩))] ((True) ∧ True) hA H ⟨trivial, trivial⟩ fun a w6 hA H hG => ?_
  refine list_end ?_
  refine hK1 _ _ ?_
  refine go_seq fun K7 hK7 => ?_
  refine q_reg [] [(2, .pointer (some ⟨b2, 0, none⟩)), (3, .pointer (some ⟨b4, 0, none⟩)), (5, (.slice none 0 0))] ((True) ∧ True) hA H ⟨trivial, trivial⟩ fun a w8 hA H hG => ?_
  refine hK7 _ _ ?_
  refine go_seq fun K9 hK9 => ?_
  refine go_seq fun K10 hK10 => ?_
  refine q_reg [] [(2, .pointer (some ⟨b2, 0, none⟩)), (3, .pointer (some ⟨b4, 0, none⟩)), (5, (.slice none 0 0)), (6, .int .i64 0)] ((True) ∧ True) hA H ⟨trivial, trivial⟩ fun a w11 hA H hG => ?_
  refine hK10 _ _ ?_
  refine go_block 0 ?_
  replace H := H.newRow (α := List Int × List Int) 29
  refine go_loop_ (Int × Value × List (List Int × List Int)) (fun x_ a W => (fun (i : Int) (vr : Value) (l : List (List Int × List Int)) => EnvOk 60 a (keepEnv [(2, .pointer (some ⟨b2, 0, none⟩)), (3, .pointer (some ⟨b4, 0, none⟩)), (5, vr), (6, .int .i64 i)]) ∧ (∃ S, Fr o W S [.row 29 vr l, .box b4 29 [vv, vl], .box b2 24 [.int .i64 n, ve]]) ∧ 0 ≤ i ∧ i ≤ (L.length : Int) ∧ (l.length : Int) ≤ i ∧ l = repsL n E V L (L.take i.toNat)) x_.1 x_.2.1 x_.2.2) (fun x_ => (fun (i : Int) (vr : Value) (l : List (List Int × List Int)) => ((L.length : Int) - i).toNat) x_.1 x_.2.1 x_.2.2) (0, .slice none 0 0, []) ?_ (fun x_ a w13 hI => ?_)
  · (try dsimp only); exact ⟨env_sub _ hA, ⟨_, H⟩, by omega, by omega, by simp, by simp [repsL]⟩
  obtain ⟨i, vr, l⟩ := x_
  obtain ⟨hA, ⟨S, H⟩, h0, h0b, h1, hi⟩ := hI
  try dsimp only at h0 h0b h1 hi
  replace H : Fr _ _ _ [.row 29 vr l, .box b4 29 [vv, vl], .box b2 24 [.int .i64 n, ve]] := H
  refine go_seq fun K14 hK14 => ?_
  refine go_seq fun K15 hK15 => ?_
  refine q_reg [(11, vl), (12, .int .i64 (L.length : Int))] [(2, .pointer (some ⟨b2, 0, none⟩)), (3, .pointer (some ⟨b4, 0, none⟩)), (5, vr), (6, .int .i64 i), (13, .bool (decide (i < (L.length : Int))))] ((True) ∧ (0 < Try.prog.cellsOf 27) ∧ (CellOk (On w13) b4 (0 + 1) (vl)) ∧ (LenOk vl (L.length : Int)) ∧ (True) ∧ True) hA H ⟨trivial, by decide +kernel, by exact box_cell H 1 rfl 1, by exact len_ok (H.arg hL), trivial, trivial⟩ fun a w16 hA H hG => ?_
  refine hK15 _ _ ?_
  refine go_cond hA (.tmp 13) (decide (i < (L.length : Int))) (fun hb17 => ?_) (fun hb17 => ?_)
  · have hhb17 := of_decide_eq_true hb17
    refine go_skip ?_
    refine hK14 _ _ ?_
    refine go_seq fun K18 hK18 => ?_
    refine go_block 1 ?_
    refine go_seq fun K19 hK19 => ?_
    have he : (L.getD i.toNat 0) ∈ L := mem_getD.2 ⟨i.toNat, by omega, rfl⟩
    refine q_reg [] [(2, .pointer (some ⟨b2, 0, none⟩)), (3, .pointer (some ⟨b4, 0, none⟩)), (5, vr), (6, .int .i64 i), (7, (.slice none 0 0))] ((True) ∧ True) hA H ⟨trivial, trivial⟩ fun a w20 hA H hG => ?_
    refine hK19 _ _ ?_
    refine go_seq fun K21 hK21 => ?_
    refine go_seq fun K22 hK22 => ?_
    refine q_reg [] [(2, .pointer (some ⟨b2, 0, none⟩)), (3, .pointer (some ⟨b4, 0, none⟩)), (5, vr), (6, .int .i64 i), (7, (.slice none 0 0)), (8, .int .i64 0)] ((True) ∧ True) hA H ⟨trivial, trivial⟩ fun a w23 hA H hG => ?_
    refine hK22 _ _ ?_
    refine go_block 2 ?_
    replace H := H.newRow (α := Int) 3
    refine go_loop_ (Int × Value × List Int) (fun x_ a W => (fun (k : Int) (vc : Value) (c : List Int) => EnvOk 60 a (keepEnv [(2, .pointer (some ⟨b2, 0, none⟩)), (3, .pointer (some ⟨b4, 0, none⟩)), (5, vr), (6, .int .i64 i), (7, vc), (8, .int .i64 k)]) ∧ (∃ S, Fr o W S [.row 3 vc c, .row 29 vr l, .box b4 29 [vv, vl], .box b2 24 [.int .i64 n, ve]]) ∧ 0 ≤ k ∧ k ≤ (L.length : Int) ∧ (c.length : Int) ≤ k ∧ c = (L.take k.toNat).filter (togB E V L (L.getD i.toNat 0))) x_.1 x_.2.1 x_.2.2) (fun x_ => (fun (k : Int) (vc : Value) (c : List Int) => ((L.length : Int) - k).toNat) x_.1 x_.2.1 x_.2.2) (0, .slice none 0 0, []) ?_ (fun x_ a w25 hI => ?_)
    · (try dsimp only); exact ⟨env_sub _ hA, ⟨_, H⟩, by omega, by omega, by simp, by simp⟩
    obtain ⟨k, vc, c⟩ := x_
    obtain ⟨hA, ⟨S, H⟩, k0, k0b, k1, hc⟩ := hI
    try dsimp only at k0 k0b k1 hc
    replace H : Fr _ _ _ [.row 3 vc c, .row 29 vr l, .box b4 29 [vv, vl], .box b2 24 [.int .i64 n, ve]] := H
    refine go_seq fun K26 hK26 => ?_
    refine go_seq fun K27 hK27 => ?_
    refine q_reg [(18, vl), (19, .int .i64 (L.length : Int))] [(2, .pointer (some ⟨b2, 0, none⟩)), (3, .pointer (some ⟨b4, 0, none⟩)), (5, vr), (6, .int .i64 i), (7, vc), (8, .int .i64 k), (20, .bool (decide (k < (L.length : Int))))] ((True) ∧ (0 < Try.prog.cellsOf 27) ∧ (CellOk (On w25) b4 (0 + 1) (vl)) ∧ (LenOk vl (L.length : Int)) ∧ (True) ∧ True) hA H ⟨trivial, by decide +kernel, by exact box_cell H 2 rfl 1, by exact len_ok (H.arg hL), trivial, trivial⟩ fun a w28 hA H hG => ?_
    refine hK27 _ _ ?_
    refine go_cond hA (.tmp 20) (decide (k < (L.length : Int))) (fun hb29 => ?_) (fun hb29 => ?_)
    · have hhb29 := of_decide_eq_true hb29
      refine go_skip ?_
      refine hK26 _ _ ?_
      refine go_seq fun K30 hK30 => ?_
      refine go_block 3 ?_
      refine go_seq fun K31 hK31 => ?_
      have hf : (L.getD k.toNat 0) ∈ L := mem_getD.2 ⟨k.toNat, by omega, rfl⟩
      refine q_draw [(23, .agg #[.int .i64 n, ve]), (24, .agg #[vv, vl]), (26, vl), (29, .int .i64 (L.getD i.toNat 0)), (31, vl), (34, .int .i64 (L.getD k.toNat 0)), (35, .bool (togB E V L (L.getD i.toNat 0) (L.getD k.toNat 0)))] [(2, .pointer (some ⟨b2, 0, none⟩)), (3, .pointer (some ⟨b4, 0, none⟩)), (5, vr), (6, .int .i64 i), (7, vc), (8, .int .i64 k), (35, .bool (togB E V L (L.getD i.toNat 0) (L.getD k.toNat 0)))] (((Try.prog.info? 24).isSome = true ∧ RowOk (On w28) b2 (0) (Try.prog.cellsOf 24) #[.int .i64 n, ve]) ∧ ((Try.prog.info? 29).isSome = true ∧ RowOk (On w28) b4 (0) (Try.prog.cellsOf 29) #[vv, vl]) ∧ (0 < Try.prog.cellsOf 27) ∧ (CellOk (On w28) b4 (0 + 1) (vl)) ∧ (True) ∧ ((Try.prog.info? 3).isSome = true ∧ IdxOk vl i) ∧ (CellOk (On w28) (hdB vl) (hdO vl + i.toNat * 1) (.int .i64 (L.getD i.toNat 0))) ∧ (0 < Try.prog.cellsOf 27) ∧ (CellOk (On w28) b4 (0 + 1) (vl)) ∧ (True) ∧ ((Try.prog.info? 3).isSome = true ∧ IdxOk vl k) ∧ (CellOk (On w28) (hdB vl) (hdO vl + k.toNat * 1) (.int .i64 (L.getD k.toNat 0))) ∧ (Callable Try.prog 84 ∧ CallOk Try.prog (On w28) 84 [.agg #[.int .i64 n, ve], .agg #[vv, vl], .int .i64 (L.getD i.toNat 0), .int .i64 (L.getD k.toNat 0)].toArray (.bool (togB E V L (L.getD i.toNat 0) (L.getD k.toNat 0)))) ∧ True) hA H ⟨⟨by kernel_rfl, by exact box_row H 3 rfl 0 2⟩, ⟨by kernel_rfl, by exact box_row H 2 rfl 0 2⟩, by decide +kernel, by exact box_cell H 2 rfl 1, trivial, ⟨by kernel_rfl, by exact idx_ok (H.arg hL) (by omega) (by omega)⟩, by exact cell_flat (i := i) (H.arg hL) (by omega) (by omega) 0 0, by decide +kernel, by exact box_cell H 2 rfl 1, trivial, ⟨by kernel_rfl, by exact idx_ok (H.arg hL) (by omega) (by omega)⟩, by exact cell_flat (i := k) (H.arg hL) (by omega) (by omega) 0 0, ⟨callable_of, callOk_of fun w hw => by exact tog_any n ve E vv vl V L (L.getD i.toNat 0) (L.getD k.toNat 0) w (by omega) (((H.on hw).arg hE)) (((H.on hw).arg hV)) (((H.on hw).arg hL)) hpt he hf⟩, trivial⟩ fun a w32 hA H hG => ?_
      refine hK31 _ _ ?_
      refine go_cond hA (.tmp 35) (togB E V L (L.getD i.toNat 0) (L.getD k.toNat 0)) (fun hb33 => ?_) (fun hb33 => ?_)
      · have hhb33 := hb33
        refine region_list ?_
        refine q_list 0 6 [(38, vl), (41, .int .i64 (L.getD k.toNat 0))] [(2, .pointer (some ⟨b2, 0, none⟩)), (3, .pointer (some ⟨b4, 0, none⟩)), (5, vr), (6, .int .i64 i), (8, .int .i64 k), (36, vc), (41, .int .i64 (L.getD k.toNat 0))] ((True) ∧ (0 < Try.prog.cellsOf 27) ∧ (CellOk (On w32) b4 (0 + 1) (vl)) ∧ (True) ∧ ((Try.prog.info? 3).isSome = true ∧ IdxOk vl k) ∧ (CellOk (On w32) (hdB vl) (hdO vl + k.toNat * 1) (.int .i64 (L.getD k.toNat 0))) ∧ True) hA H ⟨trivial, by decide +kernel, by exact box_cell H 2 rfl 1, trivial, ⟨by kernel_rfl, by exact idx_ok (H.arg hL) (by omega) (by omega)⟩, by exact cell_flat (i := k) (H.arg hL) (by omega) (by omega) 0 0, trivial⟩ fun a w34 hA H hG => ?_
        refine list_at 6 ?_; refine q_lit 6 42 27 1 #[(0, .tmp 41)] 3 [(0, .int .i64 (L.getD k.toNat 0))] [.int .i64 (L.getD k.toNat 0)] [(2, .pointer (some ⟨b2, 0, none⟩)), (3, .pointer (some ⟨b4, 0, none⟩)), (5, vr), (6, .int .i64 i), (8, .int .i64 k), (36, vc)] hA H fun b35 a w36 H hA hG hge_b35 => ?_
        clear hge_b35
        refine list_at 7 ?_; refine q_push 7 43 (.tmp 36) (.tmp 42) 1 0 b35 1 1 vc c [(L.getD k.toNat 0)] [.int .i64 (L.getD k.toNat 0)] [(2, .pointer (some ⟨b2, 0, none⟩)), (3, .pointer (some ⟨b4, 0, none⟩)), (5, vr), (6, .int .i64 i), (8, .int .i64 k)] hA H Try.E27 rfl rfl (by exact (RowRd.single (α := Int) rfl)) rfl (by simp only [List.length_cons, List.length_nil, List.length_append]; omega) (by decide) fun v37 a w38 H hA hG => ?_
        replace H : Fr _ _ _ [.row 3 v37 (c ++ [(L.getD k.toNat 0)]), .row 29 vr l, .box b4 29 [vv, vl], .box b2 24 [.int .i64 n, ve]] := H.drop 0
        refine q_list 8 1 [] [(2, .pointer (some ⟨b2, 0, none⟩)), (3, .pointer (some ⟨b4, 0, none⟩)), (5, vr), (6, .int .i64 i), (7, v37), (8, .int .i64 k)] ((True) ∧ True) hA H ⟨trivial, trivial⟩ fun a w39 hA H hG => ?_
        refine list_end ?_
        refine hK30 _ _ ?_
        refine q_reg [] [(2, .pointer (some ⟨b2, 0, none⟩)), (3, .pointer (some ⟨b4, 0, none⟩)), (5, vr), (6, .int .i64 i), (7, v37), (8, .int .i64 (k + 1))] ((True) ∧ (InR .i64 (k + 1)) ∧ (True) ∧ True) hA H ⟨trivial, ⟨by omega, by omega⟩, trivial, trivial⟩ fun a w40 hA H hG => ?_
        refine ⟨(k + 1, v37, c ++ [(L.getD k.toNat 0)]), ⟨env_sub _ hA, ⟨_, H⟩, ?_⟩, ?_⟩
        · (try dsimp only); exact ⟨by omega, by omega, by (try simp only [List.length_append, List.length_cons, List.length_nil]); omega, by rw [hc, take_snoc k0 (by omega), List.filter_append, List.filter_cons, hb33]; rfl⟩
        · (try dsimp only); omega
      · have hhb33 := hb33
        refine go_skip ?_
        refine hK30 _ _ ?_
        refine q_reg [] [(2, .pointer (some ⟨b2, 0, none⟩)), (3, .pointer (some ⟨b4, 0, none⟩)), (5, vr), (6, .int .i64 i), (7, vc), (8, .int .i64 (k + 1))] ((True) ∧ (InR .i64 (k + 1)) ∧ (True) ∧ True) hA H ⟨trivial, ⟨by omega, by omega⟩, trivial, trivial⟩ fun a w41 hA H hG => ?_
        refine ⟨(k + 1, vc, c), ⟨env_sub _ hA, ⟨_, H⟩, ?_⟩, ?_⟩
        · (try dsimp only); exact ⟨by omega, by omega, by (try simp only [List.length_append, List.length_cons, List.length_nil]); omega, by rw [hc, take_snoc k0 (by omega), List.filter_append, List.filter_cons, hb33]; simp⟩
        · (try dsimp only); omega
    · have hhb29 := of_decide_eq_false hb29
      refine go_exit 2 ?_
      refine hK21 _ _ ?_
      refine go_seq fun K42 hK42 => ?_
      have hcl : c = classL E V L (L.getD i.toNat 0) := by rw [hc, List.take_of_length_le (by omega)]; rfl
      have hcp : 0 < c.length := by rw [hcl]; exact List.length_pos_of_mem (class_self he)
      refine q_draw [(46, .int .i64 (c.getD (0 : Int).toNat 0)), (48, vl), (51, .int .i64 (L.getD i.toNat 0))] [(2, .pointer (some ⟨b2, 0, none⟩)), (3, .pointer (some ⟨b4, 0, none⟩)), (5, vr), (6, .int .i64 i), (7, vc), (52, .bool (decide ((c.getD (0 : Int).toNat 0) = (L.getD i.toNat 0))))] ((True) ∧ ((Try.prog.info? 3).isSome = true ∧ IdxOk vc 0) ∧ (CellOk (On w28) (hdB vc) (hdO vc + (0 : Int).toNat * 1) (.int .i64 (c.getD (0 : Int).toNat 0))) ∧ (0 < Try.prog.cellsOf 27) ∧ (CellOk (On w28) b4 (0 + 1) (vl)) ∧ (True) ∧ ((Try.prog.info? 3).isSome = true ∧ IdxOk vl i) ∧ (CellOk (On w28) (hdB vl) (hdO vl + i.toNat * 1) (.int .i64 (L.getD i.toNat 0))) ∧ (True) ∧ True) hA H ⟨trivial, ⟨by kernel_rfl, by exact idx_ok (H.out 0 rfl) (by omega) (by omega)⟩, by exact cell_flat (i := (0 : Int)) (H.out 0 rfl) (by omega) (by omega) 0 0, by decide +kernel, by exact box_cell H 2 rfl 1, trivial, ⟨by kernel_rfl, by exact idx_ok (H.arg hL) (by omega) (by omega)⟩, by exact cell_flat (i := i) (H.arg hL) (by omega) (by omega) 0 0, trivial, trivial⟩ fun a w43 hA H hG => ?_
      refine hK42 _ _ ?_
      refine go_cond hA (.tmp 52) (decide ((c.getD (0 : Int).toNat 0) = (L.getD i.toNat 0))) (fun hb44 => ?_) (fun hb44 => ?_)
      · have hhb44 := of_decide_eq_true hb44
        have hrs : risesP c (E.length : Int) := by rw [hcl]; exact rises_sub ((rises_iff.1 hp3).1.sublist List.filter_sublist) hp3 fun x hx => (class_mem.1 hx).1
        refine region_list ?_
        refine q_list 0 3 [(54, .agg #[.int .i64 n, ve])] [(2, .pointer (some ⟨b2, 0, none⟩)), (3, .pointer (some ⟨b4, 0, none⟩)), (6, .int .i64 i), (53, vr), (54, .agg #[.int .i64 n, ve]), (55, vc)] ((True) ∧ ((Try.prog.info? 24).isSome = true ∧ RowOk (On w43) b2 (0) (Try.prog.cellsOf 24) #[.int .i64 n, ve]) ∧ (True) ∧ True) hA H ⟨trivial, ⟨by kernel_rfl, by exact box_row H 3 rfl 0 2⟩, trivial, trivial⟩ fun a w45 hA H hG => ?_
        refine list_at 3 ?_; refine q_call 3 56 30 #[.tmp 54, .tmp 55] #[24, 27] [.agg #[.int .i64 n, ve], vc] (fun S v_ w' => Rd S w' v_ ((touchL E c n, c))) [(2, .pointer (some ⟨b2, 0, none⟩)), (3, .pointer (some ⟨b4, 0, none⟩)), (6, .int .i64 i), (53, vr)] hA H (by exact rspan_any n ve E vc c H.at (by omega) ((H.arg hE)) ((H.out 0 rfl)) hrs (by omega) (by omega)) fun v46 a w47 S hR48 H hA hG => ?_
        obtain ⟨v46a, v46b, rfl, hR48a, hR48b⟩ := two_rd hR48
        replace H := H.ro hR48a; replace H := H.ro hR48b
        replace H : Fr _ _ _ [.ro v46b c, .ro v46a (touchL E c n), .row 3 vc c, .row 29 vr l, .box b4 29 [vv, vl], .box b2 24 [.int .i64 n, ve]] := H
        refine list_at 4 ?_; refine q_lit 4 57 56 1 #[(0, .tmp 56)] 29 [(0, .agg #[v46a, v46b])] [v46a, v46b] [(2, .pointer (some ⟨b2, 0, none⟩)), (3, .pointer (some ⟨b4, 0, none⟩)), (6, .int .i64 i), (53, vr)] hA H fun b51 a w52 H hA hG hge_b51 => ?_
        clear hge_b51
        refine list_at 5 ?_; refine q_push 5 58 (.tmp 53) (.tmp 57) 4 0 b51 1 1 vr l [(touchL E c n, c)] [v46a, v46b] [(2, .pointer (some ⟨b2, 0, none⟩)), (3, .pointer (some ⟨b4, 0, none⟩)), (6, .int .i64 i)] hA H Try.E56 rfl rfl (by exact (RowRd.single (α := (List (Int)) × List (Int)) ⟨[_], _, rfl, ⟨_, rfl, rd_slice (H.getS 2 rfl)⟩, ⟨_, rfl, rd_slice (H.getS 1 rfl)⟩⟩)) rfl (by simp only [List.length_cons, List.length_nil, List.length_append]; omega) (by decide) fun v53 a w54 H hA hG => ?_
        replace H : Fr _ _ _ [.ro v46b c, .ro v46a (touchL E c n), .row 3 vc c, .row 29 v53 (l ++ [(touchL E c n, c)]), .box b4 29 [vv, vl], .box b2 24 [.int .i64 n, ve]] := H.drop 0
        refine q_list 6 1 [] [(2, .pointer (some ⟨b2, 0, none⟩)), (3, .pointer (some ⟨b4, 0, none⟩)), (5, v53), (6, .int .i64 i)] ((True) ∧ True) hA H ⟨trivial, trivial⟩ fun a w55 hA H hG => ?_
        refine list_end ?_
        refine hK18 _ _ ?_
        refine q_reg [] [(2, .pointer (some ⟨b2, 0, none⟩)), (3, .pointer (some ⟨b4, 0, none⟩)), (5, v53), (6, .int .i64 (i + 1))] ((True) ∧ (InR .i64 (i + 1)) ∧ (True) ∧ True) hA H ⟨trivial, ⟨by omega, by omega⟩, trivial, trivial⟩ fun a w56 hA H hG => ?_
        replace H := H.drop 2
        replace H := H.drop 1
        replace H := H.drop 0
        refine ⟨(i + 1, v53, l ++ [(touchL E c n, c)]), ⟨env_sub _ hA, ⟨_, H⟩, ?_⟩, ?_⟩
        · (try dsimp only); exact ⟨by omega, by omega, by (try simp only [List.length_append, List.length_cons, List.length_nil]); omega, by rw [hi, repsL_snoc h0 (by omega)]; rw [if_pos (by rw [← hcl]; exact hhb44), hcl]⟩
        · (try dsimp only); omega
      · have hhb44 := of_decide_eq_false hb44
        refine go_skip ?_
        refine hK18 _ _ ?_
        refine q_reg [] [(2, .pointer (some ⟨b2, 0, none⟩)), (3, .pointer (some ⟨b4, 0, none⟩)), (5, vr), (6, .int .i64 (i + 1))] ((True) ∧ (InR .i64 (i + 1)) ∧ (True) ∧ True) hA H ⟨trivial, ⟨by omega, by omega⟩, trivial, trivial⟩ fun a w57 hA H hG => ?_
        replace H := H.drop 0
        refine ⟨(i + 1, vr, l), ⟨env_sub _ hA, ⟨_, H⟩, ?_⟩, ?_⟩
        · (try dsimp only); exact ⟨by omega, by omega, by (try simp only [List.length_append, List.length_cons, List.length_nil]); omega, by rw [hi, repsL_snoc h0 (by omega)]; rw [if_neg (by rw [← hcl]; exact hhb44), List.append_nil]⟩
        · (try dsimp only); omega
  · have hhb17 := of_decide_eq_false hb17
    refine go_exit 0 ?_
    refine hK9 _ _ ?_
    refine go_seq fun K58 hK58 => ?_
    refine q_reg [] [(4, vr)] ((True) ∧ (True) ∧ True) hA H ⟨trivial, trivial, trivial⟩ fun a w59 hA H hG => ?_
    refine hK58 _ _ ?_
    refine go_ret_ ?_
    refine ret_one 4 vr hA ?_
    have ho := (H.give 0 rfl)
    rw [List.take_of_length_le (by omega)] at hi; rw [hi] at ho; exact ⟨_, rfl, ho, H.below⟩

set_option maxRecDepth 100000 in
set_option maxHeartbeats 4000000 in
theorem rcuts_any (vv vl vb : Value) (V L : List Int) (bs : List (List Int × List Int)) (o : Orig) (hV : Rd (· < o.w.heap.size) o.w vv V) (hL : Rd (· < o.w.heap.size) o.w vl L) (hB : Rd (· < o.w.heap.size) o.w vb bs) (hs1 : V.length ≤ 1000000) (hs2 : bs.length ≤ 1000000) :
  Calls Try.prog 52 [.agg #[vv, vl], vb].toArray o.w (Giv o (fun S v w' => Rd S w' v (cutsL V bs))) := by
  refine enter Try.f52 46 Try.func52 fun a hA => ?_
  replace hA := env_sub [(0, .agg #[vv, vl]), (1, vb)] hA
  have H := Fr.start o
  refine go_seq fun K1 hK1 => ?_
  refine region_list ?_
  refine list_at 0 ?_; refine q_box 0 2 29 (.tmp 0) (.agg #[vv, vl]) [vv, vl] [(1, vb)] hA H fun b2 a w3 H hA hG hge_b2 => ?_
  clear hge_b2
  refine q_list 1 1 [] [(1, vb), (2, .pointer (some ⟨b2, 0, none⟩))] ((True) ∧ True) hA H ⟨trivial, trivial⟩ fun a w4 hA H hG => ?_
  refine list_end ?_
  refine hK1 _ _ ?_
  refine go_seq fun K5 hK5 => ?_
  refine q_reg [] [(1, vb), (2, .pointer (some ⟨b2, 0, none⟩)), (5, (.slice none 0 0))] ((True) ∧ True) hA H ⟨trivial, trivial⟩ fun a w6 hA H hG => ?_
  refine hK5 _ _ ?_
  refine go_seq fun K7 hK7 => ?_
  refine go_seq fun K8 hK8 => ?_
  refine q_reg [] [(1, vb), (2, .pointer (some ⟨b2, 0, none⟩)), (5, (.slice none 0 0)), (6, .int .i64 0)] ((True) ∧ True) hA H ⟨trivial, trivial⟩ fun a w9 hA H hG => ?_
  refine hK8 _ _ ?_
  refine go_block 0 ?_
  replace H := H.newRow (α := Int) 3
  refine go_loop_ (Int × Value × List Int) (fun x_ a W => (fun (i : Int) (vr : Value) (l : List Int) => EnvOk 46 a (keepEnv [(1, vb), (2, .pointer (some ⟨b2, 0, none⟩)), (5, vr), (6, .int .i64 i)]) ∧ (∃ S, Fr o W S [.row 3 vr l, .box b2 29 [vv, vl]]) ∧ 0 ≤ i ∧ i ≤ (V.length : Int) ∧ (l.length : Int) ≤ i ∧ l = cutsL (V.take i.toNat) bs) x_.1 x_.2.1 x_.2.2) (fun x_ => (fun (i : Int) (vr : Value) (l : List Int) => ((V.length : Int) - i).toNat) x_.1 x_.2.1 x_.2.2) (0, .slice none 0 0, []) ?_ (fun x_ a w11 hI => ?_)
  · (try dsimp only); exact ⟨env_sub _ hA, ⟨_, H⟩, by omega, by omega, by simp, by simp [cutsL]⟩
  obtain ⟨i, vr, l⟩ := x_
  obtain ⟨hA, ⟨S, H⟩, h0, h0b, h1, hi⟩ := hI
  try dsimp only at h0 h0b h1 hi
  replace H : Fr _ _ _ [.row 3 vr l, .box b2 29 [vv, vl]] := H
  refine go_seq fun K12 hK12 => ?_
  refine go_seq fun K13 hK13 => ?_
  refine q_reg [(11, vv), (12, .int .i64 (V.length : Int))] [(1, vb), (2, .pointer (some ⟨b2, 0, none⟩)), (5, vr), (6, .int .i64 i), (13, .bool (decide (i < (V.length : Int))))] ((True) ∧ (0 < Try.prog.cellsOf 27) ∧ (CellOk (On w11) b2 (0 + 0) (vv)) ∧ (LenOk vv (V.length : Int)) ∧ (True) ∧ True) hA H ⟨trivial, by decide +kernel, by exact box_cell H 1 rfl 0, by exact len_ok (H.arg hV), trivial, trivial⟩ fun a w14 hA H hG => ?_
  refine hK13 _ _ ?_
  refine go_cond hA (.tmp 13) (decide (i < (V.length : Int))) (fun hb15 => ?_) (fun hb15 => ?_)
  · have hhb15 := of_decide_eq_true hb15
    refine go_skip ?_
    refine hK12 _ _ ?_
    refine go_seq fun K16 hK16 => ?_
    refine go_block 1 ?_
    refine go_seq fun K17 hK17 => ?_
    refine q_reg [] [(1, vb), (2, .pointer (some ⟨b2, 0, none⟩)), (5, vr), (6, .int .i64 i), (7, .int .i64 0)] ((True) ∧ True) hA H ⟨trivial, trivial⟩ fun a w18 hA H hG => ?_
    refine hK17 _ _ ?_
    refine go_seq fun K19 hK19 => ?_
    refine go_seq fun K20 hK20 => ?_
    refine q_reg [] [(1, vb), (2, .pointer (some ⟨b2, 0, none⟩)), (5, vr), (6, .int .i64 i), (7, .int .i64 0), (8, .int .i64 0)] ((True) ∧ True) hA H ⟨trivial, trivial⟩ fun a w21 hA H hG => ?_
    refine hK20 _ _ ?_
    refine go_block 2 ?_
    refine go_loop_ (Int × Int) (fun x_ a W => (fun (k : Int) (q : Int) => EnvOk 46 a (keepEnv [(1, vb), (2, .pointer (some ⟨b2, 0, none⟩)), (5, vr), (6, .int .i64 i), (7, .int .i64 q), (8, .int .i64 k)]) ∧ (∃ S, Fr o W S [.row 3 vr l, .box b2 29 [vv, vl]]) ∧ 0 ≤ k ∧ k ≤ (bs.length : Int) ∧ q = cntI (bs.take k.toNat) (V.getD i.toNat 0)) x_.1 x_.2) (fun x_ => (fun (k : Int) (q : Int) => ((bs.length : Int) - k).toNat) x_.1 x_.2) (0, 0) ?_ (fun x_ a w23 hI => ?_)
    · (try dsimp only); exact ⟨env_sub _ hA, ⟨_, H⟩, by omega, by omega, by simp [cntI, hasIn]⟩
    obtain ⟨k, q⟩ := x_
    obtain ⟨hA, ⟨S, H⟩, k0, k0b, hq⟩ := hI
    try dsimp only at k0 k0b hq
    replace H : Fr _ _ _ [.row 3 vr l, .box b2 29 [vv, vl]] := H
    have hq9 := cntI_le (bs.take k.toNat) (V.getD i.toNat 0)
    rw [← hq, List.length_take] at hq9
    refine go_seq fun K24 hK24 => ?_
    refine go_seq fun K25 hK25 => ?_
    refine q_reg [(18, .int .i64 (bs.length : Int))] [(1, vb), (2, .pointer (some ⟨b2, 0, none⟩)), (5, vr), (6, .int .i64 i), (7, .int .i64 q), (8, .int .i64 k), (19, .bool (decide (k < (bs.length : Int))))] ((True) ∧ (True) ∧ (LenOk vb (bs.length : Int)) ∧ (True) ∧ True) hA H ⟨trivial, trivial, by exact len_ok (H.arg hB), trivial, trivial⟩ fun a w26 hA H hG => ?_
    refine hK25 _ _ ?_
    refine go_cond hA (.tmp 19) (decide (k < (bs.length : Int))) (fun hb27 => ?_) (fun hb27 => ?_)
    · have hhb27 := of_decide_eq_true hb27
      refine go_skip ?_
      refine hK24 _ _ ?_
      refine go_seq fun K28 hK28 => ?_
      refine go_block 3 ?_
      refine go_seq fun K29 hK29 => ?_
      obtain ⟨ea30, eb31, hea30c, hea30a, hea30b⟩ := cell_twoC (C := On w26) H.keepsA hB k
      have hea30A := hea30a (by omega) (by omega); have hea30B := hea30b (by omega) (by omega)
      refine q_draw [(26, ea30), (28, vv), (31, .int .i64 (V.getD i.toNat 0)), (32, .bool (decide ((V.getD i.toNat 0) ∈ ((bs.getD k.toNat ([], [])).1))))] [(1, vb), (2, .pointer (some ⟨b2, 0, none⟩)), (5, vr), (6, .int .i64 i), (7, .int .i64 q), (8, .int .i64 k), (32, .bool (decide ((V.getD i.toNat 0) ∈ ((bs.getD k.toNat ([], [])).1))))] ((True) ∧ (True) ∧ ((Try.prog.info? 29).isSome = true ∧ IdxOk vb k) ∧ (0 < Try.prog.cellsOf 27) ∧ (CellOk (On w26) (hdB vb) (hdO vb + k.toNat * 2 + 0) (ea30)) ∧ (0 < Try.prog.cellsOf 27) ∧ (CellOk (On w26) b2 (0 + 0) (vv)) ∧ (True) ∧ ((Try.prog.info? 3).isSome = true ∧ IdxOk vv i) ∧ (CellOk (On w26) (hdB vv) (hdO vv + i.toNat * 1) (.int .i64 (V.getD i.toNat 0))) ∧ (Callable Try.prog 24 ∧ CallOk Try.prog (On w26) 24 [ea30, .int .i64 (V.getD i.toNat 0)].toArray (.bool (decide ((V.getD i.toNat 0) ∈ ((bs.getD k.toNat ([], [])).1))))) ∧ True) hA H ⟨trivial, trivial, ⟨by kernel_rfl, by exact idx_ok (H.arg hB) (by omega) (by omega)⟩, by decide +kernel, by exact row_cellC (hea30c (by omega) (by omega)) 0, by decide +kernel, by exact box_cell H 1 rfl 0, trivial, ⟨by kernel_rfl, by exact idx_ok (H.arg hV) (by omega) (by omega)⟩, by exact cell_flat (i := i) (H.arg hV) (by omega) (by omega) 0 0, ⟨callable_of, callOk_of fun w hw => by exact in_any ea30 ((bs.getD k.toNat ([], [])).1) (V.getD i.toNat 0) w (((H.on hw).arg hea30A))⟩, trivial⟩ fun a w32 hA H hG => ?_
      refine hK29 _ _ ?_
      refine go_cond hA (.tmp 32) (decide ((V.getD i.toNat 0) ∈ ((bs.getD k.toNat ([], [])).1))) (fun hb33 => ?_) (fun hb33 => ?_)
      · have hhb33 := of_decide_eq_true hb33
        refine q_reg [] [(1, vb), (2, .pointer (some ⟨b2, 0, none⟩)), (5, vr), (6, .int .i64 i), (7, .int .i64 (q + 1)), (8, .int .i64 k)] ((True) ∧ (InR .i64 (q + 1)) ∧ (True) ∧ True) hA H ⟨trivial, ⟨by omega, by omega⟩, trivial, trivial⟩ fun a w34 hA H hG => ?_
        refine hK28 _ _ ?_
        refine q_reg [] [(1, vb), (2, .pointer (some ⟨b2, 0, none⟩)), (5, vr), (6, .int .i64 i), (7, .int .i64 (q + 1)), (8, .int .i64 (k + 1))] ((True) ∧ (InR .i64 (k + 1)) ∧ (True) ∧ True) hA H ⟨trivial, ⟨by omega, by omega⟩, trivial, trivial⟩ fun a w35 hA H hG => ?_
        refine ⟨(k + 1, q + 1), ⟨env_sub _ hA, ⟨_, H⟩, ?_⟩, ?_⟩
        · (try dsimp only); exact ⟨by omega, by omega, by rw [cntI_snoc k0 (by omega), ← hq]; first | rw [if_pos hhb33] | (rw [if_neg hhb33]; omega)⟩
        · (try dsimp only); omega
      · have hhb33 := of_decide_eq_false hb33
        refine go_skip ?_
        refine hK28 _ _ ?_
        refine q_reg [] [(1, vb), (2, .pointer (some ⟨b2, 0, none⟩)), (5, vr), (6, .int .i64 i), (7, .int .i64 q), (8, .int .i64 (k + 1))] ((True) ∧ (InR .i64 (k + 1)) ∧ (True) ∧ True) hA H ⟨trivial, ⟨by omega, by omega⟩, trivial, trivial⟩ fun a w36 hA H hG => ?_
        refine ⟨(k + 1, q), ⟨env_sub _ hA, ⟨_, H⟩, ?_⟩, ?_⟩
        · (try dsimp only); exact ⟨by omega, by omega, by rw [cntI_snoc k0 (by omega), ← hq]; first | rw [if_pos hhb33] | (rw [if_neg hhb33]; omega)⟩
        · (try dsimp only); omega
    · have hhb27 := of_decide_eq_false hb27
      refine go_exit 2 ?_
      refine hK19 _ _ ?_
      refine go_seq fun K37 hK37 => ?_
      refine q_reg [] [(1, vb), (2, .pointer (some ⟨b2, 0, none⟩)), (5, vr), (6, .int .i64 i), (36, .bool (decide ((1 : Int) < q)))] ((True) ∧ (True) ∧ True) hA H ⟨trivial, trivial, trivial⟩ fun a w38 hA H hG => ?_
      refine hK37 _ _ ?_
      refine go_cond hA (.tmp 36) (decide ((1 : Int) < q)) (fun hb39 => ?_) (fun hb39 => ?_)
      · have hhb39 := of_decide_eq_true hb39
        refine region_list ?_
        refine q_list 0 6 [(39, vv), (42, .int .i64 (V.getD i.toNat 0))] [(1, vb), (2, .pointer (some ⟨b2, 0, none⟩)), (6, .int .i64 i), (37, vr), (42, .int .i64 (V.getD i.toNat 0))] ((True) ∧ (0 < Try.prog.cellsOf 27) ∧ (CellOk (On w38) b2 (0 + 0) (vv)) ∧ (True) ∧ ((Try.prog.info? 3).isSome = true ∧ IdxOk vv i) ∧ (CellOk (On w38) (hdB vv) (hdO vv + i.toNat * 1) (.int .i64 (V.getD i.toNat 0))) ∧ True) hA H ⟨trivial, by decide +kernel, by exact box_cell H 1 rfl 0, trivial, ⟨by kernel_rfl, by exact idx_ok (H.arg hV) (by omega) (by omega)⟩, by exact cell_flat (i := i) (H.arg hV) (by omega) (by omega) 0 0, trivial⟩ fun a w40 hA H hG => ?_
        refine list_at 6 ?_; refine q_lit 6 43 27 1 #[(0, .tmp 42)] 3 [(0, .int .i64 (V.getD i.toNat 0))] [.int .i64 (V.getD i.toNat 0)] [(1, vb), (2, .pointer (some ⟨b2, 0, none⟩)), (6, .int .i64 i), (37, vr)] hA H fun b41 a w42 H hA hG hge_b41 => ?_
        clear hge_b41
        refine list_at 7 ?_; refine q_push 7 44 (.tmp 37) (.tmp 43) 1 0 b41 1 1 vr l [(V.getD i.toNat 0)] [.int .i64 (V.getD i.toNat 0)] [(1, vb), (2, .pointer (some ⟨b2, 0, none⟩)), (6, .int .i64 i)] hA H Try.E27 rfl rfl (by exact (RowRd.single (α := Int) rfl)) rfl (by simp only [List.length_cons, List.length_nil, List.length_append]; omega) (by decide) fun v43 a w44 H hA hG => ?_
        replace H : Fr _ _ _ [.row 3 v43 (l ++ [(V.getD i.toNat 0)]), .box b2 29 [vv, vl]] := H.drop 0
        refine q_list 8 1 [] [(1, vb), (2, .pointer (some ⟨b2, 0, none⟩)), (5, v43), (6, .int .i64 i)] ((True) ∧ True) hA H ⟨trivial, trivial⟩ fun a w45 hA H hG => ?_
        refine list_end ?_
        refine hK16 _ _ ?_
        refine q_reg [] [(1, vb), (2, .pointer (some ⟨b2, 0, none⟩)), (5, v43), (6, .int .i64 (i + 1))] ((True) ∧ (InR .i64 (i + 1)) ∧ (True) ∧ True) hA H ⟨trivial, ⟨by omega, by omega⟩, trivial, trivial⟩ fun a w46 hA H hG => ?_
        refine ⟨(i + 1, v43, l ++ [(V.getD i.toNat 0)]), ⟨env_sub _ hA, ⟨_, H⟩, ?_⟩, ?_⟩
        · (try dsimp only); exact ⟨by omega, by omega, by (try simp only [List.length_append, List.length_cons, List.length_nil]); omega, by rw [List.take_of_length_le (by omega)] at hq; rw [hi, take_snoc h0 (by omega)]; exact (cutsL_snoc (.inl ⟨by unfold cntI at hq; omega, rfl⟩)).symm⟩
        · (try dsimp only); omega
      · have hhb39 := of_decide_eq_false hb39
        refine go_skip ?_
        refine hK16 _ _ ?_
        refine q_reg [] [(1, vb), (2, .pointer (some ⟨b2, 0, none⟩)), (5, vr), (6, .int .i64 (i + 1))] ((True) ∧ (InR .i64 (i + 1)) ∧ (True) ∧ True) hA H ⟨trivial, ⟨by omega, by omega⟩, trivial, trivial⟩ fun a w47 hA H hG => ?_
        refine ⟨(i + 1, vr, l), ⟨env_sub _ hA, ⟨_, H⟩, ?_⟩, ?_⟩
        · (try dsimp only); exact ⟨by omega, by omega, by (try simp only [List.length_append, List.length_cons, List.length_nil]); omega, by rw [List.take_of_length_le (by omega)] at hq; rw [hi, take_snoc h0 (by omega)]; exact (cutsL_snoc (.inr ⟨by unfold cntI at hq; omega, rfl⟩)).symm⟩
        · (try dsimp only); omega
  · have hhb15 := of_decide_eq_false hb15
    refine go_exit 0 ?_
    refine hK7 _ _ ?_
    refine go_seq fun K48 hK48 => ?_
    refine q_reg [] [(4, vr)] ((True) ∧ (True) ∧ True) hA H ⟨trivial, trivial, trivial⟩ fun a w49 hA H hG => ?_
    refine hK48 _ _ ?_
    refine go_ret_ ?_
    refine ret_one 4 vr hA ?_
    have ho := (H.give 0 rfl)
    rw [List.take_of_length_le (by omega)] at hi; rw [hi] at ho; exact ⟨_, rfl, ho, H.below⟩

end Go.Proofs.Ytahonnlgkmimlaa
