/-
  Walks, written by program: Span, RDarts, RSpan.
-/
import Derived.Test.YtahonnlgkmimlaaProg
import Derived.Test.YtahonnlgkmimlaaWalkG6
import Derived.Test.YtahonnlgkmimlaaSortA
set_option linter.unusedSimpArgs false
set_option linter.unusedVariables false
namespace Go.Proofs.Ytahonnlgkmimlaa
open Go.RowKit

set_option maxRecDepth 100000 in
set_option maxHeartbeats 1000000 in
theorem span_any (n : Int) (ve : Value) (E : List (Int × Int)) (vl : Value) (L : List Int) (o : Orig) (hn : -9223372036854775808 ≤ n ∧ n ≤ 9223372036854775807) (hE : Rd (· < o.w.heap.size) o.w ve E) (hL : Rd (· < o.w.heap.size) o.w vl L) :
  Calls Try.prog 26 [.agg #[.int .i64 n, ve], vl].toArray o.w (Giv o (fun S v w' => ∃ p, v = .tuple #[p, .int .i64 (spanE n E L).2] ∧ Rd S w' p (spanE n E L).1)) := by
  have hlenE := rd_len hE
  refine enter Try.f26 61 Try.func26 fun a hA => ?_
  replace hA := env_sub [(0, .agg #[.int .i64 n, ve]), (1, vl)] hA
  have H := Fr.start o
  refine go_seq fun K1 hK1 => ?_
  refine region_list ?_
  refine list_at 0 ?_; refine q_box 0 2 24 (.tmp 0) (.agg #[.int .i64 n, ve]) [.int .i64 n, ve] [(1, vl)] hA H fun b2 a w3 H hA hG hge_b2 => ?_
  clear hge_b2
  refine list_at 1 ?_; refine q_alloc 1 4 29 [(.slice none 0 0), (.slice none 0 0)] [(1, vl), (2, .pointer (some ⟨b2, 0, none⟩))] hA H fun b4 a w5 H hA hG hge_b4 => ?_
  clear hge_b4
  refine q_list 2 1 [] [(1, vl), (2, .pointer (some ⟨b2, 0, none⟩)), (4, .pointer (some ⟨b4, 0, none⟩))] ((True) ∧ True) hA H ⟨trivial, trivial⟩ fun a w6 hA H _ => ?_
  refine list_end ?_
  refine hK1 _ _ ?_
  refine go_seq fun K7 hK7 => ?_
  refine go_seq fun K8 hK8 => ?_
  refine q_reg [(10, .agg #[.int .i64 n, ve]), (11, .int .i64 (rightE n E))] [(1, vl), (2, .pointer (some ⟨b2, 0, none⟩)), (4, .pointer (some ⟨b4, 0, none⟩)), (6, .int .i64 (rightE n E))] (((Try.prog.info? 24).isSome = true ∧ RowOk (On w6) b2 (0) (Try.prog.cellsOf 24) #[.int .i64 n, ve]) ∧ (Callable Try.prog 20 ∧ CallOk Try.prog (On w6) 20 [.agg #[.int .i64 n, ve]].toArray (.int .i64 (rightE n E))) ∧ (True) ∧ True) hA H ⟨⟨by kernel_rfl, by exact box_row H 1 rfl 0 2⟩, ⟨callable_of, callOk_of fun w hw => by exact right_any n ve E w (by omega) (((H.on hw).arg hE))⟩, trivial, trivial⟩ fun a w9 hA H _ => ?_
  refine hK8 _ _ ?_
  refine go_seq fun K10 hK10 => ?_
  refine q_reg [] [(1, vl), (2, .pointer (some ⟨b2, 0, none⟩)), (4, .pointer (some ⟨b4, 0, none⟩)), (6, .int .i64 (rightE n E)), (13, .bool (!decide (rightE n E = 0)))] ((True) ∧ (True) ∧ True) hA H ⟨trivial, trivial, trivial⟩ fun a w11 hA H _ => ?_
  refine hK10 _ _ ?_
  refine go_cond hA (.tmp 13) (!decide (rightE n E = 0)) (fun hb12 => ?_) (fun hb12 => ?_)
  · have hhb12 := of_decide_eq_false (nT hb12)
    refine go_seq fun K13 hK13 => ?_
    refine region_list ?_
    refine q_list 0 2 [(14, .agg #[(.slice none 0 0), (.slice none 0 0)])] [(4, .pointer (some ⟨b4, 0, none⟩)), (14, .agg #[(.slice none 0 0), (.slice none 0 0)]), (15, .int .i64 (rightE n E))] ((∀ w, (Instr.build 29 #[]).run Try.prog w = .ok (.agg #[(.slice none 0 0), (.slice none 0 0)]) w) ∧ (True) ∧ True) hA H ⟨fun w => by kernel_rfl, trivial, trivial⟩ fun a w14 hA H _ => ?_
    refine list_at 2 ?_; refine q_store 2 29 (.tmp 4) (.tmp 14) 0 b4 (0) 29 [(.slice none 0 0), (.slice none 0 0)] [(.slice none 0 0), (.slice none 0 0)] [(.slice none 0 0), (.slice none 0 0)] (.agg #[(.slice none 0 0), (.slice none 0 0)]) [(4, .pointer (some ⟨b4, 0, none⟩)), (15, .int .i64 (rightE n E))] hA H rfl rfl (Nat.le_of_ble_eq_true (by kernel_rfl)) rfl (fun v hv => by simp only [List.mem_cons, List.not_mem_nil, or_false] at hv; rcases hv with rfl | rfl; exact rfl; exact rfl) fun a w15 H hA hG => ?_
    replace H : Fr _ _ _ [.box b4 29 [(.slice none 0 0), (.slice none 0 0)], .box b2 24 [.int .i64 n, ve]] := H
    refine q_list 3 1 [] [(4, .pointer (some ⟨b4, 0, none⟩)), (5, .int .i64 (rightE n E))] ((True) ∧ True) hA H ⟨trivial, trivial⟩ fun a w16 hA H _ => ?_
    refine list_end ?_
    refine hK13 _ _ ?_
    refine go_ret_ ?_
    refine ret_cell2 4 5 29 0 b4 29 [(.slice none 0 0), (.slice none 0 0)] #[(.slice none 0 0), (.slice none 0 0)] (.int .i64 (rightE n E)) hA H rfl ?_ (ht := ⟨_, Try.underlying29⟩)
    have e1 : spanE n E L = (([], []), rightE n E) := by unfold spanE; rw [if_pos hhb12]
    rw [e1]; exact ⟨_, rfl, ⟨_, rfl, rd_two rd_nil rd_nil⟩, H.below⟩
  · have hhb12 := of_decide_eq_true (nF hb12)
    refine go_skip ?_
    refine hK7 _ _ ?_
    refine go_seq fun K17 hK17 => ?_
    refine go_seq fun K18 hK18 => ?_
    refine q_reg [(18, ve), (19, .int .i64 (E.length : Int)), (20, .bool (decide (risesP L (E.length : Int))))] [(1, vl), (2, .pointer (some ⟨b2, 0, none⟩)), (4, .pointer (some ⟨b4, 0, none⟩)), (21, .bool (!(decide (risesP L (E.length : Int)))))] ((True) ∧ (0 < Try.prog.cellsOf 22) ∧ (CellOk (On w11) b2 (0 + 1) (ve)) ∧ (LenOk ve (E.length : Int)) ∧ (Callable Try.prog 73 ∧ CallOk Try.prog (On w11) 73 [vl, .int .i64 (E.length : Int)].toArray (.bool (decide (risesP L (E.length : Int))))) ∧ (True) ∧ True) hA H ⟨trivial, by decide +kernel, by exact box_cell H 1 rfl 1, by exact len_ok (H.arg hE), ⟨callable_of, callOk_of fun w hw => by exact rising_any vl L (E.length : Int) w (((H.on hw).arg hL))⟩, trivial, trivial⟩ fun a w19 hA H _ => ?_
    refine hK18 _ _ ?_
    refine go_cond hA (.tmp 21) (!(decide (risesP L (E.length : Int)))) (fun hb20 => ?_) (fun hb20 => ?_)
    · have hhb20 := of_decide_eq_false (nT hb20)
      refine go_seq fun K21 hK21 => ?_
      refine region_list ?_
      refine q_list 0 1 [(22, .agg #[(.slice none 0 0), (.slice none 0 0)])] [(4, .pointer (some ⟨b4, 0, none⟩)), (22, .agg #[(.slice none 0 0), (.slice none 0 0)])] ((∀ w, (Instr.build 29 #[]).run Try.prog w = .ok (.agg #[(.slice none 0 0), (.slice none 0 0)]) w) ∧ True) hA H ⟨fun w => by kernel_rfl, trivial⟩ fun a w22 hA H _ => ?_
      refine list_at 1 ?_; refine q_store 1 29 (.tmp 4) (.tmp 22) 0 b4 (0) 29 [(.slice none 0 0), (.slice none 0 0)] [(.slice none 0 0), (.slice none 0 0)] [(.slice none 0 0), (.slice none 0 0)] (.agg #[(.slice none 0 0), (.slice none 0 0)]) [(4, .pointer (some ⟨b4, 0, none⟩))] hA H rfl rfl (Nat.le_of_ble_eq_true (by kernel_rfl)) rfl (fun v hv => by simp only [List.mem_cons, List.not_mem_nil, or_false] at hv; rcases hv with rfl | rfl; exact rfl; exact rfl) fun a w23 H hA hG => ?_
      replace H : Fr _ _ _ [.box b4 29 [(.slice none 0 0), (.slice none 0 0)], .box b2 24 [.int .i64 n, ve]] := H
      refine q_list 2 1 [] [(4, .pointer (some ⟨b4, 0, none⟩)), (5, .int .i64 4)] ((True) ∧ True) hA H ⟨trivial, trivial⟩ fun a w24 hA H _ => ?_
      refine list_end ?_
      refine hK21 _ _ ?_
      refine go_ret_ ?_
      refine ret_cell2 4 5 29 0 b4 29 [(.slice none 0 0), (.slice none 0 0)] #[(.slice none 0 0), (.slice none 0 0)] (.int .i64 4) hA H rfl ?_ (ht := ⟨_, Try.underlying29⟩)
      have e1 : spanE n E L = (([], []), 4) := by unfold spanE; rw [if_neg (by omega), if_pos hhb20]
      rw [e1]; exact ⟨_, rfl, ⟨_, rfl, rd_two rd_nil rd_nil⟩, H.below⟩
    · have hhb20 := of_decide_eq_true (nF hb20)
      refine go_skip ?_
      refine hK17 _ _ ?_
      refine go_seq fun K25 hK25 => ?_
      have hr0 := rightE_0 (n := n) (E := E) (by omega)
      have hr1 := hhb20
      have hl9 := rises_len hr1 (by omega)
      refine region_list ?_
      refine list_at 0 ?_; refine q_alloc 0 7 29 [(.slice none 0 0), (.slice none 0 0)] [(1, vl), (2, .pointer (some ⟨b2, 0, none⟩)), (4, .pointer (some ⟨b4, 0, none⟩))] hA H fun b26 a w27 H hA hG hge_b26 => ?_
      clear hge_b26
      replace H := H.newRow (α := Int) 3
      replace H := H.newRow (α := Int) 3
      refine list_end ?_
      refine hK25 _ _ ?_
      refine go_seq fun K28 hK28 => ?_
      refine go_seq fun K29 hK29 => ?_
      refine q_reg [(24, .int .i64 (L.length : Int))] [(2, .pointer (some ⟨b2, 0, none⟩)), (4, .pointer (some ⟨b4, 0, none⟩)), (7, .pointer (some ⟨b26, 0, none⟩)), (23, vl), (24, .int .i64 (L.length : Int)), (25, .int .i64 0)] ((True) ∧ (LenOk vl (L.length : Int)) ∧ (True) ∧ True) hA H ⟨trivial, by exact len_ok (H.arg hL), trivial, trivial⟩ fun a w30 hA H _ => ?_
      refine hK29 _ _ ?_
      refine go_block 0 ?_
      refine go_loop_ (Int × Value × Value × List Int × List Int) (fun x_ a W => (fun (i : Int) (vr : Value) (vr2 : Value) (l : List Int) (l2 : List Int) => EnvOk 61 a (keepEnv [(2, .pointer (some ⟨b2, 0, none⟩)), (4, .pointer (some ⟨b4, 0, none⟩)), (7, .pointer (some ⟨b26, 0, none⟩)), (23, vl), (24, .int .i64 (L.length : Int)), (25, .int .i64 i)]) ∧ (∃ S, Fr o W S [.row 3 vr2 l2, .row 3 vr l, .box b26 29 [vr, vr2], .box b4 29 [(.slice none 0 0), (.slice none 0 0)], .box b2 24 [.int .i64 n, ve]]) ∧ 0 ≤ i ∧ i ≤ (L.length : Int) ∧ (l.length : Int) ≤ 2 * i ∧ (l2.length : Int) ≤ i ∧ l ++ endsL E (L.drop i.toNat) = endsL E L ∧ l2 ++ L.drop i.toNat = L) x_.1 x_.2.1 x_.2.2.1 x_.2.2.2.1 x_.2.2.2.2) (fun x_ => (fun (i : Int) (vr : Value) (vr2 : Value) (l : List Int) (l2 : List Int) => ((L.length : Int) - i).toNat) x_.1 x_.2.1 x_.2.2.1 x_.2.2.2.1 x_.2.2.2.2) (0, .slice none 0 0, .slice none 0 0, [], []) ?_ (fun x_ a w32 hI => ?_)
      · (try dsimp only); exact ⟨env_sub _ hA, ⟨_, H⟩, by omega, by omega, by simp, by simp, by simp, by simp⟩
      obtain ⟨i, vr, vr2, l, l2⟩ := x_
      obtain ⟨hA, ⟨S, H⟩, h0, h0b, h1, h2, hi, hi2⟩ := hI
      try dsimp only at h0 h0b h1 h2 hi hi2
      refine go_seq fun K33 hK33 => ?_
      refine q_reg [] [(2, .pointer (some ⟨b2, 0, none⟩)), (4, .pointer (some ⟨b4, 0, none⟩)), (7, .pointer (some ⟨b26, 0, none⟩)), (23, vl), (24, .int .i64 (L.length : Int)), (25, .int .i64 i), (26, .bool (decide (i < (L.length : Int))))] ((True) ∧ True) hA H ⟨trivial, trivial⟩ fun a w34 hA H _ => ?_
      refine hK33 _ _ ?_
      refine go_seq fun K35 hK35 => ?_
      refine go_cond hA (.tmp 26) (decide (i < (L.length : Int))) (fun hb36 => ?_) (fun hb36 => ?_)
      · have hhb36 := of_decide_eq_true hb36
        refine go_skip ?_
        refine hK35 _ _ ?_
        refine go_seq fun K37 hK37 => ?_
        refine go_block 1 ?_
        refine go_seq fun K38 hK38 => ?_
        have hx := hr1 i.toNat (by omega)
        refine q_reg [(28, .int .i64 (L.getD i.toNat 0))] [(2, .pointer (some ⟨b2, 0, none⟩)), (4, .pointer (some ⟨b4, 0, none⟩)), (7, .pointer (some ⟨b26, 0, none⟩)), (9, .int .i64 (L.getD i.toNat 0)), (23, vl), (24, .int .i64 (L.length : Int)), (25, .int .i64 i)] (((Try.prog.info? 3).isSome = true ∧ IdxOk vl i) ∧ (CellOk (On w34) (hdB vl) (hdO vl + i.toNat * 1) (.int .i64 (L.getD i.toNat 0))) ∧ (True) ∧ True) hA H ⟨⟨by kernel_rfl, by exact idx_ok (H.arg hL) (by omega) (by omega)⟩, by exact cell_flat (i := i) (H.arg hL) (by omega) (by omega) 0 0, trivial, trivial⟩ fun a w39 hA H _ => ?_
        refine hK38 _ _ ?_
        refine go_seq fun K40 hK40 => ?_
        refine region_list ?_
        refine q_list 0 3 [(30, vr2)] [(2, .pointer (some ⟨b2, 0, none⟩)), (4, .pointer (some ⟨b4, 0, none⟩)), (7, .pointer (some ⟨b26, 0, none⟩)), (9, .int .i64 (L.getD i.toNat 0)), (23, vl), (24, .int .i64 (L.length : Int)), (25, .int .i64 i), (30, vr2), (31, .int .i64 (L.getD i.toNat 0))] ((0 < Try.prog.cellsOf 27) ∧ (CellOk (On w39) b26 (0 + 1) (vr2)) ∧ (True) ∧ True) hA H ⟨by decide +kernel, by exact box_cell H 2 rfl 1, trivial, trivial⟩ fun a w41 hA H _ => ?_
        refine list_at 3 ?_; refine q_lit 3 32 27 1 #[(0, .tmp 31)] 3 [(0, .int .i64 (L.getD i.toNat 0))] [.int .i64 (L.getD i.toNat 0)] [(2, .pointer (some ⟨b2, 0, none⟩)), (4, .pointer (some ⟨b4, 0, none⟩)), (7, .pointer (some ⟨b26, 0, none⟩)), (9, .int .i64 (L.getD i.toNat 0)), (23, vl), (24, .int .i64 (L.length : Int)), (25, .int .i64 i), (30, vr2)] hA H fun b42 a w43 H hA hG hge_b42 => ?_
        clear hge_b42
        refine list_at 4 ?_; refine q_push 4 33 (.tmp 30) (.tmp 32) 1 0 b42 1 1 vr2 l2 [(L.getD i.toNat 0)] [.int .i64 (L.getD i.toNat 0)] [(2, .pointer (some ⟨b2, 0, none⟩)), (4, .pointer (some ⟨b4, 0, none⟩)), (7, .pointer (some ⟨b26, 0, none⟩)), (9, .int .i64 (L.getD i.toNat 0)), (23, vl), (24, .int .i64 (L.length : Int)), (25, .int .i64 i)] hA H Try.E27 rfl rfl (by exact (RowRd.single (α := Int) rfl)) rfl (by simp only [List.length_cons, List.length_nil, List.length_append]; omega) (by decide) fun v44 a w45 H hA hG => ?_
        replace H : Fr _ _ _ [.row 3 v44 (l2 ++ [(L.getD i.toNat 0)]), .row 3 vr l, .box b26 29 [vr, vr2], .box b4 29 [(.slice none 0 0), (.slice none 0 0)], .box b2 24 [.int .i64 n, ve]] := H.drop 0
        refine q_list 5 1 [] [(2, .pointer (some ⟨b2, 0, none⟩)), (4, .pointer (some ⟨b4, 0, none⟩)), (7, .pointer (some ⟨b26, 0, none⟩)), (9, .int .i64 (L.getD i.toNat 0)), (23, vl), (24, .int .i64 (L.length : Int)), (25, .int .i64 i), (33, v44), (34, .pointer (some ⟨b26, 0 + 1, none⟩))] ((0 < Try.prog.cellsOf 27) ∧ True) hA H ⟨by decide +kernel, trivial⟩ fun a w46 hA H _ => ?_
        refine list_at 6 ?_; refine q_store 6 27 (.tmp 34) (.tmp 33) 2 b26 (0 + 1) 29 [vr, vr2] [v44] [vr, v44] v44 [(2, .pointer (some ⟨b2, 0, none⟩)), (4, .pointer (some ⟨b4, 0, none⟩)), (7, .pointer (some ⟨b26, 0, none⟩)), (9, .int .i64 (L.getD i.toNat 0)), (23, vl), (24, .int .i64 (L.length : Int)), (25, .int .i64 i)] hA H rfl (one_cells (rd_one (H.out 0 rfl))) (Nat.le_of_ble_eq_true (by kernel_rfl)) rfl (fun v hv => by simp only [List.mem_cons, List.not_mem_nil, or_false] at hv; rcases hv with rfl; exact (rd_one (H.out 0 rfl))) fun a w47 H hA hG => ?_
        replace H : Fr _ _ _ [.row 3 v44 (l2 ++ [(L.getD i.toNat 0)]), .row 3 vr l, .box b26 29 [vr, v44], .box b4 29 [(.slice none 0 0), (.slice none 0 0)], .box b2 24 [.int .i64 n, ve]] := H
        refine list_end ?_
        refine hK40 _ _ ?_
        have H0 := H
        have hM0 := H0.keeps vr.ownBlock (.inr ⟨_, List.mem_of_getElem? (i := 1) rfl, rfl⟩)
        refine region_mix (But w47 vr.ownBlock) [0, 1, 2, 3, 4, 5, 6, 7, 8, 9, 10, 11, 12, 13, 14, 15] 18 ?_
        replace H := H.drawn; have hD := But.drew w47 vr.ownBlock
        generalize ({ w47 with drawn := w47.drawn + 1 } : World) = w48 at H hD ⊢
        refine m_take (n := 4) [0, 1, 2, 3, 4, 5, 6, 7, 8, 9, 10, 11, 12, 13] #[true, true, true, true, true, true, true, true, true, true, true, true, true, true, false, false, false, false] [(36, vr), (38, ve), (42, .int .i64 ((E.getD (L.getD i.toNat 0).toNat (0, 0)).1)), (44, ve), (48, .int .i64 ((E.getD (L.getD i.toNat 0).toNat (0, 0)).2))] [(2, .pointer (some ⟨b2, 0, none⟩)), (4, .pointer (some ⟨b4, 0, none⟩)), (7, .pointer (some ⟨b26, 0, none⟩)), (23, vl), (24, .int .i64 (L.length : Int)), (25, .int .i64 i), (36, vr), (42, .int .i64 ((E.getD (L.getD i.toNat 0).toNat (0, 0)).1)), (48, .int .i64 ((E.getD (L.getD i.toNat 0).toNat (0, 0)).2))] ((0 < Try.prog.cellsOf 27) ∧ (CellOk (But w47 vr.ownBlock) b26 (0 + 0) (vr)) ∧ (0 < Try.prog.cellsOf 22) ∧ (CellOk (But w47 vr.ownBlock) b2 (0 + 1) (ve)) ∧ (True) ∧ ((Try.prog.info? 99).isSome = true ∧ IdxOk ve (L.getD i.toNat 0)) ∧ (0 < Try.prog.cellsOf 3) ∧ (CellOk (But w47 vr.ownBlock) (hdB ve) (hdO ve + (L.getD i.toNat 0).toNat * 2 + 0) (.int .i64 ((E.getD (L.getD i.toNat 0).toNat (0, 0)).1))) ∧ (0 < Try.prog.cellsOf 22) ∧ (CellOk (But w47 vr.ownBlock) b2 (0 + 1) (ve)) ∧ (True) ∧ ((Try.prog.info? 99).isSome = true ∧ IdxOk ve (L.getD i.toNat 0)) ∧ (0 < Try.prog.cellsOf 3) ∧ (CellOk (But w47 vr.ownBlock) (hdB ve) (hdO ve + (L.getD i.toNat 0).toNat * 2 + 1) (.int .i64 ((E.getD (L.getD i.toNat 0).toNat (0, 0)).2))) ∧ True) hA hD ⟨by decide +kernel, by exact box_cellC (box_atC H0 vr.ownBlock 2 rfl (H0.apart 2 1 (by decide) rfl rfl rfl)) 0, by decide +kernel, by exact box_cellC (box_atC H0 vr.ownBlock 4 rfl (H0.apart 4 1 (by decide) rfl rfl rfl)) 1, trivial, ⟨by kernel_rfl, by exact idx_ok (H0.argT hE) (by omega) (by omega)⟩, by decide +kernel, by exact cell_flatC hM0 (i := (L.getD i.toNat 0)) (H0.argT hE) (by omega) (by omega) (0, 0) 0, by decide +kernel, by exact box_cellC (box_atC H0 vr.ownBlock 4 rfl (H0.apart 4 1 (by decide) rfl rfl rfl)) 1, trivial, ⟨by kernel_rfl, by exact idx_ok (H0.argT hE) (by omega) (by omega)⟩, by decide +kernel, by exact cell_flatC hM0 (i := (L.getD i.toNat 0)) (H0.argT hE) (by omega) (by omega) (0, 0) 1, trivial⟩ fun a hA => ?_
        refine m_one 14 ?_; refine q_lit 14 49 27 2 #[(0, .tmp 42), (1, .tmp 48)] 3 [(0, .int .i64 ((E.getD (L.getD i.toNat 0).toNat (0, 0)).1)), (1, .int .i64 ((E.getD (L.getD i.toNat 0).toNat (0, 0)).2))] [.int .i64 ((E.getD (L.getD i.toNat 0).toNat (0, 0)).1), .int .i64 ((E.getD (L.getD i.toNat 0).toNat (0, 0)).2)] [(2, .pointer (some ⟨b2, 0, none⟩)), (4, .pointer (some ⟨b4, 0, none⟩)), (7, .pointer (some ⟨b26, 0, none⟩)), (23, vl), (24, .int .i64 (L.length : Int)), (25, .int .i64 i), (36, vr)] hA H fun b49 a w50 H hA hG hge_b49 => ?_
        replace hge_b49 := Nat.le_trans hD.1 hge_b49
        replace hD := hD.below hG
        refine ⟨fun _ => hD, ?_⟩
        refine m_one 15 ?_; refine q_push 15 50 (.tmp 36) (.tmp 49) 2 0 b49 2 2 vr l [(E.getD (L.getD i.toNat 0).toNat (0, 0)).1, (E.getD (L.getD i.toNat 0).toNat (0, 0)).2] [.int .i64 ((E.getD (L.getD i.toNat 0).toNat (0, 0)).1), .int .i64 ((E.getD (L.getD i.toNat 0).toNat (0, 0)).2)] [(2, .pointer (some ⟨b2, 0, none⟩)), (4, .pointer (some ⟨b4, 0, none⟩)), (7, .pointer (some ⟨b26, 0, none⟩)), (23, vl), (24, .int .i64 (L.length : Int)), (25, .int .i64 i)] hA H Try.E27 rfl rfl (by exact ((RowRd.single (α := Int) rfl).append (RowRd.single (α := Int) rfl))) rfl (by simp only [List.length_cons, List.length_nil, List.length_append]; omega) (by decide) fun v51 a w52 H hA hG => ?_
        replace H : Fr _ _ _ [.row 3 v44 (l2 ++ [(L.getD i.toNat 0)]), .row 3 v51 (l ++ [(E.getD (L.getD i.toNat 0).toNat (0, 0)).1, (E.getD (L.getD i.toNat 0).toNat (0, 0)).2]), .box b26 29 [vr, v44], .box b4 29 [(.slice none 0 0), (.slice none 0 0)], .box b2 24 [.int .i64 n, ve]] := H.drop 0
        replace hD := hD.grown hG (fun b hb => .inl hb.symm)
        refine ⟨fun _ => hD, ?_⟩
        refine m_one 16 ?_; refine q_one 16 [] [(2, .pointer (some ⟨b2, 0, none⟩)), (4, .pointer (some ⟨b4, 0, none⟩)), (7, .pointer (some ⟨b26, 0, none⟩)), (23, vl), (24, .int .i64 (L.length : Int)), (25, .int .i64 i), (50, v51), (51, .pointer (some ⟨b26, 0 + 0, none⟩))] ((0 < Try.prog.cellsOf 27) ∧ True) hA H ⟨by decide +kernel, trivial⟩ fun a w53 H hA hG => ?_
        refine ⟨fun h => absurd h (by decide), ?_⟩
        refine m_one 17 ?_; refine q_store 17 27 (.tmp 51) (.tmp 50) 2 b26 (0 + 0) 29 [vr, v44] [v51] [v51, v44] v51 [(2, .pointer (some ⟨b2, 0, none⟩)), (4, .pointer (some ⟨b4, 0, none⟩)), (7, .pointer (some ⟨b26, 0, none⟩)), (23, vl), (24, .int .i64 (L.length : Int)), (25, .int .i64 i)] hA H rfl (one_cells (rd_one (H.out 1 rfl))) (Nat.le_of_ble_eq_true (by kernel_rfl)) rfl (fun v hv => by simp only [List.mem_cons, List.not_mem_nil, or_false] at hv; rcases hv with rfl; exact (rd_one (H.out 1 rfl))) fun a w54 H hA hG => ?_
        replace H : Fr _ _ _ [.row 3 v44 (l2 ++ [(L.getD i.toNat 0)]), .row 3 v51 (l ++ [(E.getD (L.getD i.toNat 0).toNat (0, 0)).1, (E.getD (L.getD i.toNat 0).toNat (0, 0)).2]), .box b26 29 [v51, v44], .box b4 29 [(.slice none 0 0), (.slice none 0 0)], .box b2 24 [.int .i64 n, ve]] := H
        refine ⟨fun h => absurd h (by decide), ?_⟩
        refine m_end ?_
        refine hK37 _ _ ?_
        refine q_reg [] [(2, .pointer (some ⟨b2, 0, none⟩)), (4, .pointer (some ⟨b4, 0, none⟩)), (7, .pointer (some ⟨b26, 0, none⟩)), (23, vl), (24, .int .i64 (L.length : Int)), (25, .int .i64 (i + 1))] ((InR .i64 (i + 1)) ∧ (True) ∧ True) hA H ⟨⟨by omega, by omega⟩, trivial, trivial⟩ fun a w55 hA H _ => ?_
        refine ⟨(i + 1, v51, v44, l ++ [(E.getD (L.getD i.toNat 0).toNat (0, 0)).1, (E.getD (L.getD i.toNat 0).toNat (0, 0)).2], l2 ++ [(L.getD i.toNat 0)]), ⟨env_sub _ hA, ⟨_, H⟩, ?_⟩, ?_⟩
        · (try dsimp only); exact ⟨by omega, by omega, by (try simp only [List.length_append, List.length_cons, List.length_nil]); omega, by (try simp only [List.length_append, List.length_cons, List.length_nil]); omega, by rw [endsL_round h0 (by omega)] at hi; (try simp only [List.append_assoc] at hi ⊢); exact hi, by rw [drop_round h0 (by omega)] at hi2; simpa using hi2⟩
        · (try dsimp only); omega
      · have hhb36 := of_decide_eq_false hb36
        refine go_exit 0 ?_
        refine hK28 _ _ ?_
        refine go_seq fun K56 hK56 => ?_
        rw [endsL_end (by omega), List.append_nil] at hi; rw [drop_end (by omega), List.append_nil] at hi2
        have hl1 : l.length ≤ 10000 := by omega
        refine region_list ?_
        refine q_list 0 2 [(54, vr)] [(4, .pointer (some ⟨b4, 0, none⟩)), (7, .pointer (some ⟨b26, 0, none⟩)), (54, vr)] ((0 < Try.prog.cellsOf 27) ∧ (CellOk (On w34) b26 (0 + 0) (vr)) ∧ True) hA H ⟨by decide +kernel, by exact box_cell H 2 rfl 0, trivial⟩ fun a w57 hA H _ => ?_
        refine list_at 2 ?_; refine q_any 2 55 74 #[.tmp 54] #[27] [vr] _ [(4, .pointer (some ⟨b4, 0, none⟩)), (7, .pointer (some ⟨b26, 0, none⟩))] hA (by exact sort_row H 1 rfl (by first | omega | (simp only [List.length_mergeSort]; omega))) fun v58 a w59 hR60 hA => ?_
        obtain ⟨H, hG⟩ := hR60
        replace H : Fr _ _ _ [.row 3 vr2 l2, .row 3 vr (sortL l), .box b26 29 [vr, vr2], .box b4 29 [(.slice none 0 0), (.slice none 0 0)], .box b2 24 [.int .i64 n, ve]] := H
        refine list_end ?_
        refine hK56 _ _ ?_
        refine go_seq fun K61 hK61 => ?_
        refine region_list ?_
        refine q_list 0 2 [(57, vr)] [(4, .pointer (some ⟨b4, 0, none⟩)), (7, .pointer (some ⟨b26, 0, none⟩)), (57, vr)] ((0 < Try.prog.cellsOf 27) ∧ (CellOk (On w59) b26 (0 + 0) (vr)) ∧ True) hA H ⟨by decide +kernel, by exact box_cell H 2 rfl 0, trivial⟩ fun a w62 hA H _ => ?_
        refine list_at 2 ?_; refine q_any 2 58 75 #[.tmp 57] #[27] [vr] _ [(4, .pointer (some ⟨b4, 0, none⟩)), (7, .pointer (some ⟨b26, 0, none⟩))] hA (by exact compact_row H 1 rfl (by first | omega | (simp only [List.length_mergeSort]; omega))) fun v63 a w64 hR65 hA => ?_
        obtain ⟨H, hG⟩ := hR65
        replace H : Fr _ _ _ [.row 3 vr2 l2, .row 3 v63 (Lib.compact (sortL l)), .box b26 29 [vr, vr2], .box b4 29 [(.slice none 0 0), (.slice none 0 0)], .box b2 24 [.int .i64 n, ve]] := H
        refine q_list 3 1 [] [(4, .pointer (some ⟨b4, 0, none⟩)), (7, .pointer (some ⟨b26, 0, none⟩)), (58, v63), (59, .pointer (some ⟨b26, 0 + 0, none⟩))] ((0 < Try.prog.cellsOf 27) ∧ True) hA H ⟨by decide +kernel, trivial⟩ fun a w66 hA H _ => ?_
        refine list_at 4 ?_; refine q_store 4 27 (.tmp 59) (.tmp 58) 2 b26 (0 + 0) 29 [vr, vr2] [v63] [v63, vr2] v63 [(4, .pointer (some ⟨b4, 0, none⟩)), (7, .pointer (some ⟨b26, 0, none⟩))] hA H rfl (one_cells (rd_one (H.out 1 rfl))) (Nat.le_of_ble_eq_true (by kernel_rfl)) rfl (fun v hv => by simp only [List.mem_cons, List.not_mem_nil, or_false] at hv; rcases hv with rfl; exact (rd_one (H.out 1 rfl))) fun a w67 H hA hG => ?_
        replace H : Fr _ _ _ [.row 3 vr2 l2, .row 3 v63 (Lib.compact (sortL l)), .box b26 29 [v63, vr2], .box b4 29 [(.slice none 0 0), (.slice none 0 0)], .box b2 24 [.int .i64 n, ve]] := H
        refine list_end ?_
        refine hK61 _ _ ?_
        refine go_seq fun K68 hK68 => ?_
        refine region_list ?_
        refine q_list 0 1 [(60, .agg #[v63, vr2])] [(4, .pointer (some ⟨b4, 0, none⟩)), (60, .agg #[v63, vr2])] (((Try.prog.info? 29).isSome = true ∧ RowOk (On w67) b26 (0) (Try.prog.cellsOf 29) #[v63, vr2]) ∧ True) hA H ⟨⟨by kernel_rfl, by exact box_row H 2 rfl 0 2⟩, trivial⟩ fun a w69 hA H _ => ?_
        refine list_at 1 ?_; refine q_store 1 29 (.tmp 4) (.tmp 60) 3 b4 (0) 29 [(.slice none 0 0), (.slice none 0 0)] [v63, vr2] [v63, vr2] (.agg #[v63, vr2]) [(4, .pointer (some ⟨b4, 0, none⟩))] hA H rfl rfl (Nat.le_of_ble_eq_true (by kernel_rfl)) rfl (fun v hv => by simp only [List.mem_cons, List.not_mem_nil, or_false] at hv; rcases hv with rfl | rfl; exact (rd_one (H.out 1 rfl)); exact (rd_one (H.out 0 rfl))) fun a w70 H hA hG => ?_
        replace H : Fr _ _ _ [.row 3 vr2 l2, .row 3 v63 (Lib.compact (sortL l)), .box b26 29 [v63, vr2], .box b4 29 [v63, vr2], .box b2 24 [.int .i64 n, ve]] := H
        refine q_list 2 1 [] [(4, .pointer (some ⟨b4, 0, none⟩)), (5, .int .i64 0)] ((True) ∧ True) hA H ⟨trivial, trivial⟩ fun a w71 hA H _ => ?_
        refine list_end ?_
        refine hK68 _ _ ?_
        refine go_ret_ ?_
        refine ret_cell2 4 5 29 3 b4 29 [v63, vr2] #[v63, vr2] (.int .i64 0) hA H rfl ?_ (ht := ⟨_, Try.underlying29⟩)
        have e1 : spanE n E L = ((Lib.compact (sortL (endsL E L)), L), 0) := by unfold spanE; rw [if_neg (by omega), if_neg (fun q => q hr1)]
        have hV2 := (H.give 1 rfl); have hE2 := (H.give 0 rfl); rw [hi] at hV2; rw [hi2] at hE2
        rw [e1]; exact ⟨_, rfl, ⟨_, rfl, rd_two hV2 hE2⟩, H.below⟩

set_option maxRecDepth 100000 in
set_option maxHeartbeats 1000000 in
theorem rdarts_any (n : Int) (ve : Value) (E : List (Int × Int)) (vv vl : Value) (V L : List Int) (x : Int) (o : Orig) (hn : -9223372036854775808 ≤ n ∧ n ≤ 9223372036854775807) (hE : Rd (· < o.w.heap.size) o.w ve E) (hV : Rd (· < o.w.heap.size) o.w vv V) (hL : Rd (· < o.w.heap.size) o.w vl L) (hx : risesP L (E.length : Int)) (hs : (E.length : Int) ≤ 100000) :
  Calls Try.prog 37 [.agg #[.int .i64 n, ve], .agg #[vv, vl], .int .i64 x].toArray o.w (Giv o (fun S v w' => Rd S w' v (dartsL E L x))) := by
  have hl9 := rises_len hx (by omega)
  refine enter Try.f37 45 Try.func37 fun a hA => ?_
  replace hA := env_sub [(0, .agg #[.int .i64 n, ve]), (1, .agg #[vv, vl]), (2, .int .i64 x)] hA
  have H := Fr.start o
  refine go_seq fun K1 hK1 => ?_
  refine region_list ?_
  refine list_at 0 ?_; refine q_box 0 3 24 (.tmp 0) (.agg #[.int .i64 n, ve]) [.int .i64 n, ve] [(1, .agg #[vv, vl]), (2, .int .i64 x)] hA H fun b2 a w3 H hA hG hge_b2 => ?_
  clear hge_b2
  refine list_at 1 ?_; refine q_box 1 4 29 (.tmp 1) (.agg #[vv, vl]) [vv, vl] [(2, .int .i64 x), (3, .pointer (some ⟨b2, 0, none⟩))] hA H fun b4 a w5 H hA hG hge_b4 => ?_
  clear hge_b4
  refine q_list 2 1 [] [(2, .int .i64 x), (3, .pointer (some ⟨b2, 0, none⟩)), (4, .pointer (some ⟨b4, 0, none⟩))] ((True) ∧ True) hA H ⟨trivial, trivial⟩ fun a w6 hA H _ => ?_
  refine list_end ?_
  refine hK1 _ _ ?_
  refine go_seq fun K7 hK7 => ?_
  refine q_reg [] [(2, .int .i64 x), (3, .pointer (some ⟨b2, 0, none⟩)), (4, .pointer (some ⟨b4, 0, none⟩)), (7, (.slice none 0 0))] ((True) ∧ True) hA H ⟨trivial, trivial⟩ fun a w8 hA H _ => ?_
  refine hK7 _ _ ?_
  refine go_seq fun K9 hK9 => ?_
  refine go_seq fun K10 hK10 => ?_
  refine q_reg [] [(2, .int .i64 x), (3, .pointer (some ⟨b2, 0, none⟩)), (4, .pointer (some ⟨b4, 0, none⟩)), (7, (.slice none 0 0)), (8, .int .i64 0)] ((True) ∧ True) hA H ⟨trivial, trivial⟩ fun a w11 hA H _ => ?_
  refine hK10 _ _ ?_
  refine go_block 0 ?_
  replace H := H.newRow (α := Int) 3
  refine go_loop_ (Int × Value × List Int) (fun x_ a W => (fun (i : Int) (vr : Value) (l : List Int) => EnvOk 45 a (keepEnv [(2, .int .i64 x), (3, .pointer (some ⟨b2, 0, none⟩)), (4, .pointer (some ⟨b4, 0, none⟩)), (7, vr), (8, .int .i64 i)]) ∧ (∃ S, Fr o W S [.row 3 vr l, .box b4 29 [vv, vl], .box b2 24 [.int .i64 n, ve]]) ∧ 0 ≤ i ∧ (l.length : Int) ≤ 2 * i ∧ l ++ dartsL E (L.drop i.toNat) x = dartsL E L x) x_.1 x_.2.1 x_.2.2) (fun x_ => (fun (i : Int) (vr : Value) (l : List Int) => ((L.length : Int) - i).toNat) x_.1 x_.2.1 x_.2.2) (0, .slice none 0 0, []) ?_ (fun x_ a w13 hI => ?_)
  · (try dsimp only); exact ⟨env_sub _ hA, ⟨_, H⟩, by omega, by simp, by simp⟩
  obtain ⟨i, vr, l⟩ := x_
  obtain ⟨hA, ⟨S, H⟩, h0, h1, hi⟩ := hI
  try dsimp only at h0 h1 hi
  refine go_seq fun K14 hK14 => ?_
  refine go_seq fun K15 hK15 => ?_
  refine q_reg [(12, vl), (13, .int .i64 (L.length : Int))] [(2, .int .i64 x), (3, .pointer (some ⟨b2, 0, none⟩)), (4, .pointer (some ⟨b4, 0, none⟩)), (7, vr), (8, .int .i64 i), (14, .bool (decide (i < (L.length : Int))))] ((True) ∧ (0 < Try.prog.cellsOf 27) ∧ (CellOk (On w13) b4 (0 + 1) (vl)) ∧ (LenOk vl (L.length : Int)) ∧ (True) ∧ True) hA H ⟨trivial, by decide +kernel, by exact box_cell H 1 rfl 1, by exact len_ok (H.arg hL), trivial, trivial⟩ fun a w16 hA H _ => ?_
  refine hK15 _ _ ?_
  refine go_cond hA (.tmp 14) (decide (i < (L.length : Int))) (fun hb17 => ?_) (fun hb17 => ?_)
  · have hhb17 := of_decide_eq_true hb17
    refine go_skip ?_
    refine hK14 _ _ ?_
    refine go_seq fun K18 hK18 => ?_
    refine go_block 1 ?_
    refine go_seq fun K19 hK19 => ?_
    have hx9 := hx i.toNat (by omega)
    refine q_reg [] [(2, .int .i64 x), (3, .pointer (some ⟨b2, 0, none⟩)), (4, .pointer (some ⟨b4, 0, none⟩)), (7, vr), (8, .int .i64 i), (9, .int .i64 0)] ((True) ∧ True) hA H ⟨trivial, trivial⟩ fun a w20 hA H _ => ?_
    refine hK19 _ _ ?_
    refine go_block 2 ?_
    refine go_loop_ (Int × Value × List Int) (fun x_ a W => (fun (s : Int) (vr2 : Value) (l2 : List Int) => EnvOk 45 a (keepEnv [(2, .int .i64 x), (3, .pointer (some ⟨b2, 0, none⟩)), (4, .pointer (some ⟨b4, 0, none⟩)), (7, vr2), (8, .int .i64 i), (9, .int .i64 s)]) ∧ (∃ S, Fr o W S [.row 3 vr2 l2, .box b4 29 [vv, vl], .box b2 24 [.int .i64 n, ve]]) ∧ 0 ≤ s ∧ s ≤ 2 ∧ (l2.length : Int) ≤ 2 * i + s ∧ l2 ++ (dartsFrom E (L.getD i.toNat 0) x s ++ dartsL E (L.drop (i + 1).toNat) x) = dartsL E L x) x_.1 x_.2.1 x_.2.2) (fun x_ => (fun (s : Int) (vr2 : Value) (l2 : List Int) => (2 - s).toNat) x_.1 x_.2.1 x_.2.2) (0, vr, l) ?_ (fun x_ a w22 hI => ?_)
    · (try dsimp only); exact ⟨env_sub _ hA, ⟨_, H⟩, by omega, by omega, by omega, by rw [← dartsL_round h0 (by omega)]; exact hi⟩
    obtain ⟨s, vr2, l2⟩ := x_
    obtain ⟨hA, ⟨S, H⟩, s0, s1, s2, hj⟩ := hI
    try dsimp only at s0 s1 s2 hj
    refine go_seq fun K23 hK23 => ?_
    refine go_seq fun K24 hK24 => ?_
    refine q_reg [] [(2, .int .i64 x), (3, .pointer (some ⟨b2, 0, none⟩)), (4, .pointer (some ⟨b4, 0, none⟩)), (7, vr2), (8, .int .i64 i), (9, .int .i64 s), (18, .bool (decide (s < 2)))] ((True) ∧ (True) ∧ True) hA H ⟨trivial, trivial, trivial⟩ fun a w25 hA H _ => ?_
    refine hK24 _ _ ?_
    refine go_cond hA (.tmp 18) (decide (s < 2)) (fun hb26 => ?_) (fun hb26 => ?_)
    · have hhb26 := of_decide_eq_true hb26
      refine go_skip ?_
      refine hK23 _ _ ?_
      refine go_seq fun K27 hK27 => ?_
      refine go_block 3 ?_
      refine go_seq fun K28 hK28 => ?_
      refine q_draw [(21, .agg #[.int .i64 n, ve]), (23, vl), (26, .int .i64 (L.getD i.toNat 0)), (30, .int .i64 (tailE E ((2 * (L.getD i.toNat 0)) + s)))] [(2, .int .i64 x), (3, .pointer (some ⟨b2, 0, none⟩)), (4, .pointer (some ⟨b4, 0, none⟩)), (7, vr2), (8, .int .i64 i), (9, .int .i64 s), (32, .bool (decide (tailE E ((2 * (L.getD i.toNat 0)) + s) = x)))] (((Try.prog.info? 24).isSome = true ∧ RowOk (On w25) b2 (0) (Try.prog.cellsOf 24) #[.int .i64 n, ve]) ∧ (0 < Try.prog.cellsOf 27) ∧ (CellOk (On w25) b4 (0 + 1) (vl)) ∧ (True) ∧ ((Try.prog.info? 3).isSome = true ∧ IdxOk vl i) ∧ (CellOk (On w25) (hdB vl) (hdO vl + i.toNat * 1) (.int .i64 (L.getD i.toNat 0))) ∧ (InR .i64 (2 * (L.getD i.toNat 0))) ∧ (True) ∧ (InR .i64 ((2 * (L.getD i.toNat 0)) + s)) ∧ (Callable Try.prog 34 ∧ CallOk Try.prog (On w25) 34 [.agg #[.int .i64 n, ve], .int .i64 ((2 * (L.getD i.toNat 0)) + s)].toArray (.int .i64 (tailE E ((2 * (L.getD i.toNat 0)) + s)))) ∧ (True) ∧ (True) ∧ True) hA H ⟨⟨by kernel_rfl, by exact box_row H 2 rfl 0 2⟩, by decide +kernel, by exact box_cell H 1 rfl 1, trivial, ⟨by kernel_rfl, by exact idx_ok (H.arg hL) (by omega) (by omega)⟩, by exact cell_flat (i := i) (H.arg hL) (by omega) (by omega) 0 0, ⟨by omega, by omega⟩, trivial, ⟨by omega, by omega⟩, ⟨callable_of, callOk_of fun w hw => by exact tail_any n ve E ((2 * (L.getD i.toNat 0)) + s) w (by omega) (((H.on hw).arg hE)) (by omega) (by omega) (by omega)⟩, trivial, trivial, trivial⟩ fun a w29 hA H _ => ?_
      refine hK28 _ _ ?_
      refine go_cond hA (.tmp 32) (decide (tailE E ((2 * (L.getD i.toNat 0)) + s) = x)) (fun hb30 => ?_) (fun hb30 => ?_)
      · have hhb30 := of_decide_eq_true hb30
        refine region_list ?_
        refine q_list 0 9 [(35, vl), (38, .int .i64 (L.getD i.toNat 0))] [(2, .int .i64 x), (3, .pointer (some ⟨b2, 0, none⟩)), (4, .pointer (some ⟨b4, 0, none⟩)), (8, .int .i64 i), (9, .int .i64 s), (33, vr2), (41, .int .i64 ((2 * (L.getD i.toNat 0)) + s))] ((True) ∧ (0 < Try.prog.cellsOf 27) ∧ (CellOk (On w29) b4 (0 + 1) (vl)) ∧ (True) ∧ ((Try.prog.info? 3).isSome = true ∧ IdxOk vl i) ∧ (CellOk (On w29) (hdB vl) (hdO vl + i.toNat * 1) (.int .i64 (L.getD i.toNat 0))) ∧ (InR .i64 (2 * (L.getD i.toNat 0))) ∧ (True) ∧ (InR .i64 ((2 * (L.getD i.toNat 0)) + s)) ∧ True) hA H ⟨trivial, by decide +kernel, by exact box_cell H 1 rfl 1, trivial, ⟨by kernel_rfl, by exact idx_ok (H.arg hL) (by omega) (by omega)⟩, by exact cell_flat (i := i) (H.arg hL) (by omega) (by omega) 0 0, ⟨by omega, by omega⟩, trivial, ⟨by omega, by omega⟩, trivial⟩ fun a w31 hA H _ => ?_
        refine list_at 9 ?_; refine q_lit 9 42 27 1 #[(0, .tmp 41)] 3 [(0, .int .i64 ((2 * (L.getD i.toNat 0)) + s))] [.int .i64 ((2 * (L.getD i.toNat 0)) + s)] [(2, .int .i64 x), (3, .pointer (some ⟨b2, 0, none⟩)), (4, .pointer (some ⟨b4, 0, none⟩)), (8, .int .i64 i), (9, .int .i64 s), (33, vr2)] hA H fun b32 a w33 H hA hG hge_b32 => ?_
        clear hge_b32
        refine list_at 10 ?_; refine q_push 10 43 (.tmp 33) (.tmp 42) 1 0 b32 1 1 vr2 l2 [(2 * (L.getD i.toNat 0)) + s] [.int .i64 ((2 * (L.getD i.toNat 0)) + s)] [(2, .int .i64 x), (3, .pointer (some ⟨b2, 0, none⟩)), (4, .pointer (some ⟨b4, 0, none⟩)), (8, .int .i64 i), (9, .int .i64 s)] hA H Try.E27 rfl rfl (by exact (RowRd.single (α := Int) rfl)) rfl (by simp only [List.length_cons, List.length_nil, List.length_append]; omega) (by decide) fun v34 a w35 H hA hG => ?_
        replace H : Fr _ _ _ [.row 3 v34 (l2 ++ [(2 * (L.getD i.toNat 0)) + s]), .box b4 29 [vv, vl], .box b2 24 [.int .i64 n, ve]] := H.drop 0
        refine q_list 11 1 [] [(2, .int .i64 x), (3, .pointer (some ⟨b2, 0, none⟩)), (4, .pointer (some ⟨b4, 0, none⟩)), (7, v34), (8, .int .i64 i), (9, .int .i64 s)] ((True) ∧ True) hA H ⟨trivial, trivial⟩ fun a w36 hA H _ => ?_
        refine list_end ?_
        refine hK27 _ _ ?_
        refine q_reg [] [(2, .int .i64 x), (3, .pointer (some ⟨b2, 0, none⟩)), (4, .pointer (some ⟨b4, 0, none⟩)), (7, v34), (8, .int .i64 i), (9, .int .i64 (s + 1))] ((True) ∧ (InR .i64 (s + 1)) ∧ (True) ∧ True) hA H ⟨trivial, ⟨by omega, by omega⟩, trivial, trivial⟩ fun a w37 hA H _ => ?_
        refine ⟨(s + 1, v34, l2 ++ [(2 * (L.getD i.toNat 0)) + s]), ⟨env_sub _ hA, ⟨_, H⟩, ?_⟩, ?_⟩
        · (try dsimp only); refine ⟨by omega, by omega, by (try simp only [List.length_append, List.length_cons, List.length_nil]); omega, by rw [dartsFrom_round s0 (by omega)] at hj; simp only [hhb30, if_true, if_false, List.nil_append] at hj; (try simp only [List.append_assoc] at hj ⊢); exact hj⟩
        · (try dsimp only); omega
      · have hhb30 := of_decide_eq_false hb30
        refine go_skip ?_
        refine hK27 _ _ ?_
        refine q_reg [] [(2, .int .i64 x), (3, .pointer (some ⟨b2, 0, none⟩)), (4, .pointer (some ⟨b4, 0, none⟩)), (7, vr2), (8, .int .i64 i), (9, .int .i64 (s + 1))] ((True) ∧ (InR .i64 (s + 1)) ∧ (True) ∧ True) hA H ⟨trivial, ⟨by omega, by omega⟩, trivial, trivial⟩ fun a w38 hA H _ => ?_
        refine ⟨(s + 1, vr2, l2), ⟨env_sub _ hA, ⟨_, H⟩, ?_⟩, ?_⟩
        · (try dsimp only); refine ⟨by omega, by omega, by (try simp only [List.length_append, List.length_cons, List.length_nil]); omega, by rw [dartsFrom_round s0 (by omega)] at hj; simp only [hhb30, if_true, if_false, List.nil_append] at hj; (try simp only [List.append_assoc] at hj ⊢); exact hj⟩
        · (try dsimp only); omega
    · have hhb26 := of_decide_eq_false hb26
      refine go_exit 2 ?_
      refine hK18 _ _ ?_
      refine q_reg [] [(2, .int .i64 x), (3, .pointer (some ⟨b2, 0, none⟩)), (4, .pointer (some ⟨b4, 0, none⟩)), (7, vr2), (8, .int .i64 (i + 1))] ((True) ∧ (InR .i64 (i + 1)) ∧ (True) ∧ True) hA H ⟨trivial, ⟨by omega, by omega⟩, trivial, trivial⟩ fun a w39 hA H _ => ?_
      refine ⟨(i + 1, vr2, l2), ⟨env_sub _ hA, ⟨_, H⟩, ?_⟩, ?_⟩
      · (try dsimp only); exact ⟨by omega, by omega, by rw [dartsFrom_end (by omega), List.nil_append] at hj; exact hj⟩
      · (try dsimp only); omega
  · have hhb17 := of_decide_eq_false hb17
    refine go_exit 0 ?_
    refine hK9 _ _ ?_
    refine go_seq fun K40 hK40 => ?_
    refine q_reg [] [(6, vr)] ((True) ∧ (True) ∧ True) hA H ⟨trivial, trivial, trivial⟩ fun a w41 hA H _ => ?_
    refine hK40 _ _ ?_
    refine go_ret_ ?_
    refine ret_one 6 vr hA ?_
    have ho := (H.give 0 rfl)
    rw [dartsL_end (by omega), List.append_nil] at hi; subst hi; exact ⟨_, rfl, ho, H.below⟩

set_option maxRecDepth 100000 in
set_option maxHeartbeats 1000000 in
theorem rspan_any (n : Int) (ve : Value) (E : List (Int × Int)) (vl : Value) (L : List Int) (o : Orig) (hn : -9223372036854775808 ≤ n ∧ n ≤ 9223372036854775807) (hE : Rd (· < o.w.heap.size) o.w ve E) (hL : Rd (· < o.w.heap.size) o.w vl L) (hx : risesP L (E.length : Int)) (hs : (E.length : Int) ≤ 100000) (hs2 : n ≤ 100000) :
  Calls Try.prog 30 [.agg #[.int .i64 n, ve], vl].toArray o.w (Giv o (fun S v w' => Rd S w' v ((touchL E L n, L)))) := by
  have hl9 := rises_len hx (by omega)
  refine enter Try.f30 56 Try.func30 fun a hA => ?_
  replace hA := env_sub [(0, .agg #[.int .i64 n, ve]), (1, vl)] hA
  have H := Fr.start o
  refine go_seq fun K1 hK1 => ?_
  refine region_list ?_
  refine list_at 0 ?_; refine q_box 0 2 24 (.tmp 0) (.agg #[.int .i64 n, ve]) [.int .i64 n, ve] [(1, vl)] hA H fun b2 a w3 H hA hG hge_b2 => ?_
  clear hge_b2
  refine list_at 1 ?_; refine q_alloc 1 4 29 [(.slice none 0 0), (.slice none 0 0)] [(1, vl), (2, .pointer (some ⟨b2, 0, none⟩))] hA H fun b4 a w5 H hA hG hge_b4 => ?_
  clear hge_b4
  refine list_end ?_
  refine hK1 _ _ ?_
  refine go_seq fun K6 hK6 => ?_
  refine region_list ?_
  refine list_at 0 ?_; refine q_alloc 0 5 29 [(.slice none 0 0), (.slice none 0 0)] [(1, vl), (2, .pointer (some ⟨b2, 0, none⟩)), (4, .pointer (some ⟨b4, 0, none⟩))] hA H fun b7 a w8 H hA hG hge_b7 => ?_
  clear hge_b7
  replace H := H.newRow (α := Int) 3
  replace H := H.newRow (α := Int) 3
  refine list_end ?_
  refine hK6 _ _ ?_
  refine go_seq fun K9 hK9 => ?_
  refine region_list ?_
  refine q_list 0 3 [(9, (.slice none 0 0))] [(1, vl), (2, .pointer (some ⟨b2, 0, none⟩)), (4, .pointer (some ⟨b4, 0, none⟩)), (5, .pointer (some ⟨b7, 0, none⟩)), (9, (.slice none 0 0)), (10, vl)] ((0 < Try.prog.cellsOf 27) ∧ (CellOk (On w8) b7 (0 + 1) ((.slice none 0 0))) ∧ (True) ∧ True) hA H ⟨by decide +kernel, by exact box_cell H 2 rfl 1, trivial, trivial⟩ fun a w10 hA H _ => ?_
  refine list_at 3 ?_; refine q_pushS 3 11 (.tmp 9) (.tmp 10) 0 (.slice none 0 0) vl ([] : List Int) L [(1, vl), (2, .pointer (some ⟨b2, 0, none⟩)), (4, .pointer (some ⟨b4, 0, none⟩)), (5, .pointer (some ⟨b7, 0, none⟩))] hA H Try.E27 rfl (H.arg hL) (by simp only [List.length_cons, List.length_nil, List.length_append]; omega) (by decide) (fun _ _ h => h) fun v11 a w12 H hA hG => ?_
  replace H : Fr _ _ _ [.row 3 v11 (([] : List Int) ++ L), .row 3 (.slice none 0 0) ([] : List Int), .box b7 29 [(.slice none 0 0), (.slice none 0 0)], .box b4 29 [(.slice none 0 0), (.slice none 0 0)], .box b2 24 [.int .i64 n, ve]] := H
  refine q_list 4 1 [] [(1, vl), (2, .pointer (some ⟨b2, 0, none⟩)), (4, .pointer (some ⟨b4, 0, none⟩)), (5, .pointer (some ⟨b7, 0, none⟩)), (11, v11), (12, .pointer (some ⟨b7, 0 + 1, none⟩))] ((0 < Try.prog.cellsOf 27) ∧ True) hA H ⟨by decide +kernel, trivial⟩ fun a w13 hA H _ => ?_
  refine list_at 5 ?_; refine q_store 5 27 (.tmp 12) (.tmp 11) 2 b7 (0 + 1) 29 [(.slice none 0 0), (.slice none 0 0)] [v11] [(.slice none 0 0), v11] v11 [(1, vl), (2, .pointer (some ⟨b2, 0, none⟩)), (4, .pointer (some ⟨b4, 0, none⟩)), (5, .pointer (some ⟨b7, 0, none⟩))] hA H rfl (one_cells (rd_one (H.out 0 rfl))) (Nat.le_of_ble_eq_true (by kernel_rfl)) rfl (fun v hv => by simp only [List.mem_cons, List.not_mem_nil, or_false] at hv; rcases hv with rfl; exact (rd_one (H.out 0 rfl))) fun a w14 H hA hG => ?_
  replace H : Fr _ _ _ [.row 3 v11 (([] : List Int) ++ L), .row 3 (.slice none 0 0) ([] : List Int), .box b7 29 [(.slice none 0 0), v11], .box b4 29 [(.slice none 0 0), (.slice none 0 0)], .box b2 24 [.int .i64 n, ve]] := H
  refine list_end ?_
  refine hK9 _ _ ?_
  refine go_seq fun K15 hK15 => ?_
  refine go_seq fun K16 hK16 => ?_
  refine q_reg [] [(1, vl), (2, .pointer (some ⟨b2, 0, none⟩)), (4, .pointer (some ⟨b4, 0, none⟩)), (5, .pointer (some ⟨b7, 0, none⟩)), (6, .int .i64 0)] ((True) ∧ True) hA H ⟨trivial, trivial⟩ fun a w17 hA H _ => ?_
  refine hK16 _ _ ?_
  refine go_block 0 ?_
  refine go_loop_ (Int × Value × List Int) (fun x_ a W => (fun (i : Int) (vr : Value) (l : List Int) => EnvOk 56 a (keepEnv [(1, vl), (2, .pointer (some ⟨b2, 0, none⟩)), (4, .pointer (some ⟨b4, 0, none⟩)), (5, .pointer (some ⟨b7, 0, none⟩)), (6, .int .i64 i)]) ∧ (∃ S, Fr o W S [.row 3 v11 (([] : List Int) ++ L), .row 3 vr l, .box b7 29 [vr, v11], .box b4 29 [(.slice none 0 0), (.slice none 0 0)], .box b2 24 [.int .i64 n, ve]]) ∧ 0 ≤ i ∧ (i ≤ n ∨ i = 0) ∧ (l.length : Int) ≤ i ∧ l = touchL E L i) x_.1 x_.2.1 x_.2.2) (fun x_ => (fun (i : Int) (vr : Value) (l : List Int) => (n - i).toNat) x_.1 x_.2.1 x_.2.2) (0, .slice none 0 0, []) ?_ (fun x_ a w19 hI => ?_)
  · (try dsimp only); exact ⟨env_sub _ hA, ⟨_, H⟩, by omega, by omega, by simp, rfl⟩
  obtain ⟨i, vr, l⟩ := x_
  obtain ⟨hA, ⟨S, H⟩, h0, h0a, h1, hi⟩ := hI
  try dsimp only at h0 h0a h1 hi
  refine go_seq fun K20 hK20 => ?_
  refine go_seq fun K21 hK21 => ?_
  refine q_reg [(15, .int .i64 n)] [(1, vl), (2, .pointer (some ⟨b2, 0, none⟩)), (4, .pointer (some ⟨b4, 0, none⟩)), (5, .pointer (some ⟨b7, 0, none⟩)), (6, .int .i64 i), (16, .bool (decide (i < n)))] ((True) ∧ (0 < Try.prog.cellsOf 3) ∧ (CellOk (On w19) b2 (0 + 0) (.int .i64 n)) ∧ (True) ∧ True) hA H ⟨trivial, by decide +kernel, by exact box_cell H 4 rfl 0, trivial, trivial⟩ fun a w22 hA H _ => ?_
  refine hK21 _ _ ?_
  refine go_cond hA (.tmp 16) (decide (i < n)) (fun hb23 => ?_) (fun hb23 => ?_)
  · have hhb23 := of_decide_eq_true hb23
    refine go_skip ?_
    refine hK20 _ _ ?_
    refine go_seq fun K24 hK24 => ?_
    refine go_block 1 ?_
    refine go_seq fun K25 hK25 => ?_
    refine q_reg [] [(1, vl), (2, .pointer (some ⟨b2, 0, none⟩)), (4, .pointer (some ⟨b4, 0, none⟩)), (5, .pointer (some ⟨b7, 0, none⟩)), (6, .int .i64 i), (7, .int .i64 0)] ((True) ∧ True) hA H ⟨trivial, trivial⟩ fun a w26 hA H _ => ?_
    refine hK25 _ _ ?_
    refine go_block 2 ?_
    refine go_loop_ (Int) (fun x_ a W => (fun (k : Int) => EnvOk 56 a (keepEnv [(1, vl), (2, .pointer (some ⟨b2, 0, none⟩)), (4, .pointer (some ⟨b4, 0, none⟩)), (5, .pointer (some ⟨b7, 0, none⟩)), (6, .int .i64 i), (7, .int .i64 k)]) ∧ (∃ S, Fr o W S [.row 3 v11 (([] : List Int) ++ L), .row 3 vr l, .box b7 29 [vr, v11], .box b4 29 [(.slice none 0 0), (.slice none 0 0)], .box b2 24 [.int .i64 n, ve]]) ∧ 0 ≤ k ∧ ∀ j : Nat, (j : Int) < k → ¬ touchP E (L.getD j 0) i) x_) (fun x_ => (fun (k : Int) => ((L.length : Int) - k).toNat) x_) (0) ?_ (fun k a w28 hI => ?_)
    · (try dsimp only); exact ⟨env_sub _ hA, ⟨_, H⟩, by omega, fun j hj => by omega⟩
    obtain ⟨hA, ⟨S, H⟩, k0, hk⟩ := hI
    try dsimp only at k0 hk
    refine go_seq fun K29 hK29 => ?_
    refine go_seq fun K30 hK30 => ?_
    refine q_reg [(21, .int .i64 (L.length : Int))] [(1, vl), (2, .pointer (some ⟨b2, 0, none⟩)), (4, .pointer (some ⟨b4, 0, none⟩)), (5, .pointer (some ⟨b7, 0, none⟩)), (6, .int .i64 i), (7, .int .i64 k), (22, .bool (decide (k < (L.length : Int))))] ((True) ∧ (True) ∧ (LenOk vl (L.length : Int)) ∧ (True) ∧ True) hA H ⟨trivial, trivial, by exact len_ok (H.arg hL), trivial, trivial⟩ fun a w31 hA H _ => ?_
    refine hK30 _ _ ?_
    refine go_cond hA (.tmp 22) (decide (k < (L.length : Int))) (fun hb32 => ?_) (fun hb32 => ?_)
    · have hhb32 := of_decide_eq_true hb32
      refine go_skip ?_
      refine hK29 _ _ ?_
      refine go_seq fun K33 hK33 => ?_
      refine go_block 3 ?_
      refine go_seq fun K34 hK34 => ?_
      have hx9 := hx k.toNat (by omega)
      refine q_draw [(26, ve), (30, .int .i64 (L.getD k.toNat 0)), (33, .int .i64 ((E.getD (L.getD k.toNat 0).toNat (0, 0)).1)), (38, ve), (42, .int .i64 (L.getD k.toNat 0)), (45, .int .i64 ((E.getD (L.getD k.toNat 0).toNat (0, 0)).2))] [(1, vl), (2, .pointer (some ⟨b2, 0, none⟩)), (4, .pointer (some ⟨b4, 0, none⟩)), (5, .pointer (some ⟨b7, 0, none⟩)), (6, .int .i64 i), (7, .int .i64 k), (48, .bool ((decide ((E.getD (L.getD k.toNat 0).toNat (0, 0)).1 = i)) || (decide ((E.getD (L.getD k.toNat 0).toNat (0, 0)).2 = i))))] ((0 < Try.prog.cellsOf 22) ∧ (CellOk (On w31) b2 (0 + 1) (ve)) ∧ (True) ∧ (True) ∧ ((Try.prog.info? 3).isSome = true ∧ IdxOk vl k) ∧ (CellOk (On w31) (hdB vl) (hdO vl + k.toNat * 1) (.int .i64 (L.getD k.toNat 0))) ∧ ((Try.prog.info? 99).isSome = true ∧ IdxOk ve (L.getD k.toNat 0)) ∧ (0 < Try.prog.cellsOf 3) ∧ (CellOk (On w31) (hdB ve) (hdO ve + (L.getD k.toNat 0).toNat * 2 + 0) (.int .i64 ((E.getD (L.getD k.toNat 0).toNat (0, 0)).1))) ∧ (True) ∧ (True) ∧ (True) ∧ ((decide ((E.getD (L.getD k.toNat 0).toNat (0, 0)).1 = i)) = false → 0 < Try.prog.cellsOf 22) ∧ ((decide ((E.getD (L.getD k.toNat 0).toNat (0, 0)).1 = i)) = false → CellOk (On w31) b2 (0 + 1) (ve)) ∧ ((decide ((E.getD (L.getD k.toNat 0).toNat (0, 0)).1 = i)) = false → True) ∧ ((decide ((E.getD (L.getD k.toNat 0).toNat (0, 0)).1 = i)) = false → True) ∧ ((decide ((E.getD (L.getD k.toNat 0).toNat (0, 0)).1 = i)) = false → (Try.prog.info? 3).isSome = true ∧ IdxOk vl k) ∧ ((decide ((E.getD (L.getD k.toNat 0).toNat (0, 0)).1 = i)) = false → CellOk (On w31) (hdB vl) (hdO vl + k.toNat * 1) (.int .i64 (L.getD k.toNat 0))) ∧ ((decide ((E.getD (L.getD k.toNat 0).toNat (0, 0)).1 = i)) = false → (Try.prog.info? 99).isSome = true ∧ IdxOk ve (L.getD k.toNat 0)) ∧ ((decide ((E.getD (L.getD k.toNat 0).toNat (0, 0)).1 = i)) = false → 0 < Try.prog.cellsOf 3) ∧ ((decide ((E.getD (L.getD k.toNat 0).toNat (0, 0)).1 = i)) = false → CellOk (On w31) (hdB ve) (hdO ve + (L.getD k.toNat 0).toNat * 2 + 1) (.int .i64 ((E.getD (L.getD k.toNat 0).toNat (0, 0)).2))) ∧ ((decide ((E.getD (L.getD k.toNat 0).toNat (0, 0)).1 = i)) = false → True) ∧ ((decide ((E.getD (L.getD k.toNat 0).toNat (0, 0)).1 = i)) = false → True) ∧ (True) ∧ True) hA H ⟨by decide +kernel, by exact box_cell H 4 rfl 1, trivial, trivial, ⟨by kernel_rfl, by exact idx_ok (H.arg hL) (by omega) (by omega)⟩, by exact cell_flat (i := k) (H.arg hL) (by omega) (by omega) 0 0, ⟨by kernel_rfl, by exact idx_ok (H.arg hE) (by omega) (by omega)⟩, by decide +kernel, by exact cell_flat (i := (L.getD k.toNat 0)) (H.arg hE) (by omega) (by omega) (0, 0) 0, trivial, trivial, trivial, fun _ => by decide +kernel, fun _ => by exact box_cell H 4 rfl 1, fun _ => trivial, fun _ => trivial, fun hg0 => by replace hg0 := of_decide_eq_false hg0; exact ⟨by kernel_rfl, by exact idx_ok (H.arg hL) (by omega) (by omega)⟩, fun hg0 => by replace hg0 := of_decide_eq_false hg0; exact by exact cell_flat (i := k) (H.arg hL) (by omega) (by omega) 0 0, fun hg0 => by replace hg0 := of_decide_eq_false hg0; exact ⟨by kernel_rfl, by exact idx_ok (H.arg hE) (by omega) (by omega)⟩, fun _ => by decide +kernel, fun hg0 => by replace hg0 := of_decide_eq_false hg0; exact by exact cell_flat (i := (L.getD k.toNat 0)) (H.arg hE) (by omega) (by omega) (0, 0) 1, fun _ => trivial, fun _ => trivial, trivial, trivial⟩ fun a w35 hA H _ => ?_
      refine hK34 _ _ ?_
      refine go_cond hA (.tmp 48) ((decide ((E.getD (L.getD k.toNat 0).toNat (0, 0)).1 = i)) || (decide ((E.getD (L.getD k.toNat 0).toNat (0, 0)).2 = i))) (fun hb36 => ?_) (fun hb36 => ?_)
      · have hhb36 := (oT hb36).imp (fun h => of_decide_eq_true h) (fun h => of_decide_eq_true h)
        refine go_seq fun K37 hK37 => ?_
        refine region_list ?_
        refine q_list 0 3 [(50, vr)] [(1, vl), (2, .pointer (some ⟨b2, 0, none⟩)), (4, .pointer (some ⟨b4, 0, none⟩)), (5, .pointer (some ⟨b7, 0, none⟩)), (6, .int .i64 i), (50, vr), (51, .int .i64 i)] ((0 < Try.prog.cellsOf 27) ∧ (CellOk (On w35) b7 (0 + 0) (vr)) ∧ (True) ∧ True) hA H ⟨by decide +kernel, by exact box_cell H 2 rfl 0, trivial, trivial⟩ fun a w38 hA H _ => ?_
        refine list_at 3 ?_; refine q_lit 3 52 27 1 #[(0, .tmp 51)] 3 [(0, .int .i64 i)] [.int .i64 i] [(1, vl), (2, .pointer (some ⟨b2, 0, none⟩)), (4, .pointer (some ⟨b4, 0, none⟩)), (5, .pointer (some ⟨b7, 0, none⟩)), (6, .int .i64 i), (50, vr)] hA H fun b39 a w40 H hA hG hge_b39 => ?_
        clear hge_b39
        refine list_at 4 ?_; refine q_push 4 53 (.tmp 50) (.tmp 52) 2 0 b39 1 1 vr l [i] [.int .i64 i] [(1, vl), (2, .pointer (some ⟨b2, 0, none⟩)), (4, .pointer (some ⟨b4, 0, none⟩)), (5, .pointer (some ⟨b7, 0, none⟩)), (6, .int .i64 i)] hA H Try.E27 rfl rfl (by exact (RowRd.single (α := Int) rfl)) rfl (by simp only [List.length_cons, List.length_nil, List.length_append]; omega) (by decide) fun v41 a w42 H hA hG => ?_
        replace H : Fr _ _ _ [.row 3 v11 (([] : List Int) ++ L), .row 3 v41 (l ++ [i]), .box b7 29 [vr, v11], .box b4 29 [(.slice none 0 0), (.slice none 0 0)], .box b2 24 [.int .i64 n, ve]] := H.drop 0
        refine q_list 5 1 [] [(1, vl), (2, .pointer (some ⟨b2, 0, none⟩)), (4, .pointer (some ⟨b4, 0, none⟩)), (5, .pointer (some ⟨b7, 0, none⟩)), (6, .int .i64 i), (53, v41), (54, .pointer (some ⟨b7, 0 + 0, none⟩))] ((0 < Try.prog.cellsOf 27) ∧ True) hA H ⟨by decide +kernel, trivial⟩ fun a w43 hA H _ => ?_
        refine list_at 6 ?_; refine q_store 6 27 (.tmp 54) (.tmp 53) 2 b7 (0 + 0) 29 [vr, v11] [v41] [v41, v11] v41 [(1, vl), (2, .pointer (some ⟨b2, 0, none⟩)), (4, .pointer (some ⟨b4, 0, none⟩)), (5, .pointer (some ⟨b7, 0, none⟩)), (6, .int .i64 i)] hA H rfl (one_cells (rd_one (H.out 1 rfl))) (Nat.le_of_ble_eq_true (by kernel_rfl)) rfl (fun v hv => by simp only [List.mem_cons, List.not_mem_nil, or_false] at hv; rcases hv with rfl; exact (rd_one (H.out 1 rfl))) fun a w44 H hA hG => ?_
        replace H : Fr _ _ _ [.row 3 v11 (([] : List Int) ++ L), .row 3 v41 (l ++ [i]), .box b7 29 [v41, v11], .box b4 29 [(.slice none 0 0), (.slice none 0 0)], .box b2 24 [.int .i64 n, ve]] := H
        refine list_end ?_
        refine hK37 _ _ ?_
        refine go_exit 2 ?_
        refine hK24 _ _ ?_
        refine q_reg [] [(1, vl), (2, .pointer (some ⟨b2, 0, none⟩)), (4, .pointer (some ⟨b4, 0, none⟩)), (5, .pointer (some ⟨b7, 0, none⟩)), (6, .int .i64 (i + 1))] ((True) ∧ (InR .i64 (i + 1)) ∧ (True) ∧ True) hA H ⟨trivial, ⟨by omega, by omega⟩, trivial, trivial⟩ fun a w45 hA H _ => ?_
        refine ⟨(i + 1, v41, l ++ [i]), ⟨env_sub _ hA, ⟨_, H⟩, ?_⟩, ?_⟩
        · (try dsimp only); exact ⟨by omega, by omega, by (try simp only [List.length_append, List.length_cons, List.length_nil]); omega, by rw [hi, touchL_T h0 (decide_eq_true ⟨k.toNat, by omega, hhb36⟩)]⟩
        · (try dsimp only); omega
      · have hhb36 := (⟨of_decide_eq_false ((oF hb36).1), of_decide_eq_false ((oF hb36).2)⟩ : _ ∧ _)
        refine go_skip ?_
        refine hK33 _ _ ?_
        refine q_reg [] [(1, vl), (2, .pointer (some ⟨b2, 0, none⟩)), (4, .pointer (some ⟨b4, 0, none⟩)), (5, .pointer (some ⟨b7, 0, none⟩)), (6, .int .i64 i), (7, .int .i64 (k + 1))] ((True) ∧ (InR .i64 (k + 1)) ∧ (True) ∧ True) hA H ⟨trivial, ⟨by omega, by omega⟩, trivial, trivial⟩ fun a w46 hA H _ => ?_
        refine ⟨(k + 1), ⟨env_sub _ hA, ⟨_, H⟩, ?_⟩, ?_⟩
        · (try dsimp only); exact ⟨by omega, fun j hj => if e : (j : Int) = k then (by rw [show j = k.toNat by omega]; unfold touchP; have := hhb36; omega) else hk j (by omega)⟩
        · (try dsimp only); omega
    · have hhb32 := of_decide_eq_false hb32
      refine go_exit 2 ?_
      refine hK24 _ _ ?_
      refine q_reg [] [(1, vl), (2, .pointer (some ⟨b2, 0, none⟩)), (4, .pointer (some ⟨b4, 0, none⟩)), (5, .pointer (some ⟨b7, 0, none⟩)), (6, .int .i64 (i + 1))] ((True) ∧ (InR .i64 (i + 1)) ∧ (True) ∧ True) hA H ⟨trivial, ⟨by omega, by omega⟩, trivial, trivial⟩ fun a w47 hA H _ => ?_
      refine ⟨(i + 1, vr, l), ⟨env_sub _ hA, ⟨_, H⟩, ?_⟩, ?_⟩
      · (try dsimp only); exact ⟨by omega, by omega, by (try simp only [List.length_append, List.length_cons, List.length_nil]); omega, by rw [hi, touchL_F h0 (decide_eq_false (fun ⟨j, hj, q⟩ => hk j (by omega) q))]⟩
      · (try dsimp only); omega
  · have hhb23 := of_decide_eq_false hb23
    refine go_exit 0 ?_
    refine hK15 _ _ ?_
    refine go_seq fun K48 hK48 => ?_
    refine region_list ?_
    refine q_list 0 1 [(55, .agg #[vr, v11])] [(4, .pointer (some ⟨b4, 0, none⟩)), (55, .agg #[vr, v11])] (((Try.prog.info? 29).isSome = true ∧ RowOk (On w22) b7 (0) (Try.prog.cellsOf 29) #[vr, v11]) ∧ True) hA H ⟨⟨by kernel_rfl, by exact box_row H 2 rfl 0 2⟩, trivial⟩ fun a w49 hA H _ => ?_
    refine list_at 1 ?_; refine q_store 1 29 (.tmp 4) (.tmp 55) 3 b4 (0) 29 [(.slice none 0 0), (.slice none 0 0)] [vr, v11] [vr, v11] (.agg #[vr, v11]) [(4, .pointer (some ⟨b4, 0, none⟩))] hA H rfl rfl (Nat.le_of_ble_eq_true (by kernel_rfl)) rfl (fun v hv => by simp only [List.mem_cons, List.not_mem_nil, or_false] at hv; rcases hv with rfl | rfl; exact (rd_one (H.out 1 rfl)); exact (rd_one (H.out 0 rfl))) fun a w50 H hA hG => ?_
    replace H : Fr _ _ _ [.row 3 v11 (([] : List Int) ++ L), .row 3 vr l, .box b7 29 [vr, v11], .box b4 29 [vr, v11], .box b2 24 [.int .i64 n, ve]] := H
    refine list_end ?_
    refine hK48 _ _ ?_
    refine go_ret_ ?_
    refine ret_cell 4 29 3 b4 29 [vr, v11] #[vr, v11] hA H rfl ?_ (ht := ⟨_, Try.underlying29⟩)
    have e1 : touchL E L i = touchL E L n := by unfold touchL; rw [upto_eq (by omega) h0a]
    rw [e1] at hi; subst hi; exact ⟨_, rfl, rd_two (H.give 1 rfl) (H.give 0 rfl), H.below⟩

end Go.Proofs.Ytahonnlgkmimlaa
