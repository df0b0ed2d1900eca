/-
 Texts joined by program: WalkP2, WalkG1, WalkG2, WalkG5, WalkG3, WalkG4, WalkG6, WalkG7, WalkP3, WalkB1, WalkB2.
-/
import Derived.Test.YtahonnlgkmimlaaProg
import Derived.Test.YtahonnlgkmimlaaJPairCuts3
set_option linter.unusedSimpArgs false
set_option linter.unusedVariables false
set_option maxRecDepth 100000
set_option maxHeartbeats 8000000
namespace Go.Proofs.Ytahonnlgkmimlaa
open Go.RowKit
theorem verts_any (vl : Value) (l : List (Int × Int × Int)) (o : Orig) (hL : Rd (· < o.w.heap.size) o.w vl l) (hs : l.length ≤ 100000) :
 Calls Try.prog 61 [vl].toArray o.w (Giv o (fun S v w' => Rd S w' v (vertsL l))) := by
 refine enter Try.f61 24 Try.func61 fun a hA => ?_
 replace hA := env_sub [(0, vl)] hA
 have H := Fr.start o
 refine go_seq fun K1 hK1 => ?_
 refine q_reg [] [(0, vl)] (TT ∧ True) hA H ⟨tv, tv⟩ fun a w2 hA H hG => ?_
 refine hK1 _ _ ?_
 refine go_seq fun K3 hK3 => ?_
 refine q_reg [] [(0, vl), (3, (.slice none 0 0))] (TT ∧ True) hA H ⟨tv, tv⟩ fun a w4 hA H hG => ?_
 refine hK3 _ _ ?_
 refine go_seq fun K5 hK5 => ?_
 refine go_seq fun K6 hK6 => ?_
 refine q_reg [(7, iv (l.length : Int))] [(3, (.slice none 0 0)), (6, vl), (7, iv (l.length : Int)), (8, iv 0)] (TT ∧ (LenOk vl (l.length : Int)) ∧ TT ∧ True) hA H ⟨tv, by exact len_ok (H.arg hL), tv, tv⟩ fun a w7 hA H hG => ?_
 refine hK6 _ _ ?_
 refine go_block 0 ?_
 replace H := H.newRow (α := Int) 3
 refine go_loop_ (Int × Value × List Int) (fun x_ a W => (fun (i : Int) (vr : Value) (e : List Int) => EnvOk 24 a (keepEnv [(3, vr), (6, vl), (7, iv (l.length : Int)), (8, iv i)]) ∧ (∃ S, Fr o W S [.row 3 vr e]) ∧ 0 ≤ i ∧ i ≤ (l.length : Int) ∧ (e.length : Int) ≤ 2 * i ∧ e = endsK (l.take i.toNat)) x_.1 x_.2.1 x_.2.2) (fun x_ => (fun (i : Int) (vr : Value) (e : List Int) => ((l.length : Int) - i).toNat) x_.1 x_.2.1 x_.2.2) (0, .slice none 0 0, []) ?_ (fun x_ a w9 hI => ?_)
 · (try dsimp only); exact ⟨env_sub _ hA, ⟨_, H⟩, by omega, by omega, by simp, by simp [endsK]⟩
 obtain ⟨i, vr, e⟩ := x_
 obtain ⟨hA, ⟨S, H⟩, h0, h0b, h1, hi⟩ := hI
 try dsimp only at h0 h0b h1 hi
 replace H : Fr _ _ _ [.row 3 vr e] := H
 refine go_seq fun K10 hK10 => ?_
 refine q_reg [] [(3, vr), (6, vl), (7, iv (l.length : Int)), (8, iv i), (9, .bool (decide (i < (l.length : Int))))] (TT ∧ True) hA H ⟨tv, tv⟩ fun a w11 hA H hG => ?_
 refine hK10 _ _ ?_
 refine go_seq fun K12 hK12 => ?_
 refine go_cond hA (.tmp 9) (decide (i < (l.length : Int))) (fun hb13 => ?_) (fun hb13 => ?_)
 · have hhb13 := of_decide_eq_true hb13
   refine go_skip ?_
   refine hK12 _ _ ?_
   refine go_seq fun K14 hK14 => ?_
   refine go_block 1 ?_
   refine go_seq fun K15 hK15 => ?_
   refine region_list ?_
   refine q_list 0 2 [(11, .agg #[.int .i64 ((l.getD i.toNat (0, (0, 0))).1), .int .i64 (((l.getD i.toNat (0, (0, 0))).2).1), .int .i64 (((l.getD i.toNat (0, (0, 0))).2).2)])] [(3, vr), (6, vl), (7, iv (l.length : Int)), (8, iv i), (11, .agg #[.int .i64 ((l.getD i.toNat (0, (0, 0))).1), .int .i64 (((l.getD i.toNat (0, (0, 0))).2).1), .int .i64 (((l.getD i.toNat (0, (0, 0))).2).2)])] (((Try.prog.info? 92).isSome = true ∧ IdxOk vl i) ∧ ((Try.prog.info? 92).isSome = true ∧ RowOk (On w11) (hdB vl) (hdO vl + i.toNat * 3) (Try.prog.cellsOf 92) #[.int .i64 ((l.getD i.toNat (0, (0, 0))).1), .int .i64 (((l.getD i.toNat (0, (0, 0))).2).1), .int .i64 (((l.getD i.toNat (0, (0, 0))).2).2)]) ∧ True) hA H ⟨⟨by kernel_rfl, by exact idx_ok (H.arg hL) (by omega) (by omega)⟩, ⟨by kernel_rfl, by exact row_flat (i := i) (H.arg hL) (by omega) (by omega) (0, (0, 0))⟩, tv⟩ fun a w16 hA H hG => ?_
   refine list_at 2 ?_; refine q_alloc 2 5 92 [.int .i64 0, .int .i64 0, .int .i64 0] [(3, vr), (6, vl), (7, iv (l.length : Int)), (8, iv i), (11, .agg #[.int .i64 ((l.getD i.toNat (0, (0, 0))).1), .int .i64 (((l.getD i.toNat (0, (0, 0))).2).1), .int .i64 (((l.getD i.toNat (0, (0, 0))).2).2)])] hA H fun b17 a w18 H hA hG hge_b17 => ?_
   clear hge_b17
   refine list_at 3 ?_; refine q_store 3 92 (.tmp 5) (.tmp 11) 0 b17 (0) 92 [.int .i64 0, .int .i64 0, .int .i64 0] [.int .i64 ((l.getD i.toNat (0, (0, 0))).1), .int .i64 (((l.getD i.toNat (0, (0, 0))).2).1), .int .i64 (((l.getD i.toNat (0, (0, 0))).2).2)] [.int .i64 ((l.getD i.toNat (0, (0, 0))).1), .int .i64 (((l.getD i.toNat (0, (0, 0))).2).1), .int .i64 (((l.getD i.toNat (0, (0, 0))).2).2)] (.agg #[.int .i64 ((l.getD i.toNat (0, (0, 0))).1), .int .i64 (((l.getD i.toNat (0, (0, 0))).2).1), .int .i64 (((l.getD i.toNat (0, (0, 0))).2).2)]) [(3, vr), (5, pv b17), (6, vl), (7, iv (l.length : Int)), (8, iv i)] hA H rfl rfl (Nat.le_of_ble_eq_true (by kernel_rfl)) rfl (fun v hv => by simp only [List.mem_cons, List.not_mem_nil, or_false] at hv; rcases hv with rfl | rfl | rfl; exact rfl; exact rfl; exact rfl) fun a w19 H hA hG => ?_
   replace H : Fr _ _ _ [.box b17 92 [.int .i64 ((l.getD i.toNat (0, (0, 0))).1), .int .i64 (((l.getD i.toNat (0, (0, 0))).2).1), .int .i64 (((l.getD i.toNat (0, (0, 0))).2).2)], .row 3 vr e] := H
   refine list_end ?_
   refine hK15 _ _ ?_
   refine region_list ?_
   refine q_list 0 5 [(14, iv ((l.getD i.toNat (0, (0, 0))).1)), (16, iv (((l.getD i.toNat (0, (0, 0))).2).1))] [(6, vl), (7, iv (l.length : Int)), (8, iv i), (12, vr), (14, iv ((l.getD i.toNat (0, (0, 0))).1)), (16, iv (((l.getD i.toNat (0, (0, 0))).2).1))] (TT ∧ (0 < Try.prog.cellsOf 3) ∧ (CellOk (On w19) b17 (0 + 0) (.int .i64 ((l.getD i.toNat (0, (0, 0))).1))) ∧ (0 < Try.prog.cellsOf 3) ∧ (CellOk (On w19) b17 (0 + 1) (.int .i64 (((l.getD i.toNat (0, (0, 0))).2).1))) ∧ True) hA H ⟨tv, by decide +kernel, by exact box_cell H 0 rfl 0, by decide +kernel, by exact box_cell H 0 rfl 1, tv⟩ fun a w20 hA H hG => ?_
   refine list_at 5 ?_; refine q_lit 5 17 27 2 #[(0, .tmp 14), (1, .tmp 16)] 3 [(0, iv ((l.getD i.toNat (0, (0, 0))).1)), (1, iv (((l.getD i.toNat (0, (0, 0))).2).1))] [.int .i64 ((l.getD i.toNat (0, (0, 0))).1), .int .i64 (((l.getD i.toNat (0, (0, 0))).2).1)] [(6, vl), (7, iv (l.length : Int)), (8, iv i), (12, vr)] hA H fun b21 a w22 H hA hG hge_b21 => ?_
   clear hge_b21
   refine list_at 6 ?_; refine q_push 6 18 (.tmp 12) (.tmp 17) 2 0 b21 2 2 vr e [(l.getD i.toNat (0, (0, 0))).1, ((l.getD i.toNat (0, (0, 0))).2).1] [.int .i64 ((l.getD i.toNat (0, (0, 0))).1), .int .i64 (((l.getD i.toNat (0, (0, 0))).2).1)] [(6, vl), (7, iv (l.length : Int)), (8, iv i)] hA H Try.E27 rfl rfl (by exact ((RowRd.single (α := Int) rfl).append (RowRd.single (α := Int) rfl))) rfl (by simp only [List.length_cons, List.length_nil, List.length_append]; omega) (by decide) fun v23 a w24 H hA hG => ?_
   replace H : Fr _ _ _ [.box b17 92 [.int .i64 ((l.getD i.toNat (0, (0, 0))).1), .int .i64 (((l.getD i.toNat (0, (0, 0))).2).1), .int .i64 (((l.getD i.toNat (0, (0, 0))).2).2)], .row 3 v23 (e ++ [(l.getD i.toNat (0, (0, 0))).1, ((l.getD i.toNat (0, (0, 0))).2).1])] := H.drop 0
   refine q_list 7 1 [] [(3, v23), (6, vl), (7, iv (l.length : Int)), (8, iv i)] (TT ∧ True) hA H ⟨tv, tv⟩ fun a w25 hA H hG => ?_
   refine list_end ?_
   refine hK14 _ _ ?_
   refine q_reg [] [(3, v23), (6, vl), (7, iv (l.length : Int)), (8, iv (i + 1))] ((InR .i64 (i + 1)) ∧ TT ∧ True) hA H ⟨⟨by omega, by omega⟩, tv, tv⟩ fun a w26 hA H hG => ?_
   replace H := H.drop 0
   refine ⟨(i + 1, v23, e ++ [(l.getD i.toNat (0, (0, 0))).1, ((l.getD i.toNat (0, (0, 0))).2).1]), ⟨env_sub _ hA, ⟨_, H⟩, ?_⟩, ?_⟩
   · (try dsimp only); refine ⟨by omega, by omega, by (try simp only [List.length_append, List.length_cons, List.length_nil]); omega, by rw [hi, endsK_snoc h0 (by omega)]; rfl⟩
   (try dsimp only); omega
 have hhb13 := of_decide_eq_false hb13
 refine go_exit 0 ?_
 refine hK5 _ _ ?_
 refine go_seq fun K27 hK27 => ?_
 have hl1 : e.length ≤ 1000000 := by omega
 refine region_list ?_
 refine q_list 0 1 [] [(3, vr), (20, vr)] (TT ∧ True) hA H ⟨tv, tv⟩ fun a w28 hA H hG => ?_
 refine list_at 1 ?_; refine q_any 1 21 74 #[.tmp 20] #[27] [vr] _ [(3, vr)] hA (by exact sort_row H 0 rfl (by first | omega | (simp only [List.length_mergeSort]; omega) | (simp only [List.length_cons]; omega))) fun v29 a w30 hR31 hA => ?_
 obtain ⟨H, hG⟩ := hR31
 replace H : Fr _ _ _ [.row 3 vr (sortL e)] := H
 refine list_end ?_
 refine hK27 _ _ ?_
 refine go_seq fun K32 hK32 => ?_
 refine region_list ?_
 refine q_list 0 1 [] [(22, vr)] (TT ∧ True) hA H ⟨tv, tv⟩ fun a w33 hA H hG => ?_
 refine list_at 1 ?_; refine q_any 1 23 75 #[.tmp 22] #[27] [vr] _ [] hA (by exact compact_row H 0 rfl (by first | omega | (simp only [List.length_mergeSort]; omega) | (simp only [List.length_cons]; omega))) fun v34 a w35 hR36 hA => ?_
 obtain ⟨H, hG⟩ := hR36
 replace H : Fr _ _ _ [.row 3 v34 (Lib.compact (sortL e))] := H
 refine q_list 2 1 [] [(2, v34)] (TT ∧ True) hA H ⟨tv, tv⟩ fun a w37 hA H hG => ?_
 refine list_end ?_
 refine hK32 _ _ ?_
 refine go_ret_ ?_
 refine ret_one 2 v34 hA ?_
 have ho := (H.give 0 rfl)
 rw [hi, List.take_of_length_le (by omega)] at ho; exact ⟨_, rfl, ho, H.below⟩
theorem rings_any (vl : Value) (l : List (Int × Int × Int)) (w : World) (hL : Rd (· < w.heap.size) w vl l) (hs : l.length ≤ 100000) (hwf : WfL l) :
 Calls Try.prog 90 [vl].toArray w (Ans (.bool (ringsB l)) w) := by
 refine enter Try.f90 34 Try.func90 fun a hA => ?_
 replace hA := env_sub [(0, vl)] hA
 have H := Fr.start (org w)
 refine go_seq fun K1 hK1 => ?_
 refine q_reg [] [(0, vl)] (TT ∧ True) hA H ⟨tv, tv⟩ fun a w2 hA H hG => ?_
 refine hK1 _ _ ?_
 refine go_seq fun K3 hK3 => ?_
 refine region_list ?_
 refine list_at 0 ?_; refine q_makeMap Int 3 0 8 130 [(0, vl)] hA H fun b4 a w5 H hA hG hge_b4 => ?_
 clear hge_b4
 replace H : Fr _ _ _ [mapN Try.prog 3 b4 []] := H
 refine q_list 1 1 [] [(0, vl), (3, (.map (some b4)))] (TT ∧ True) hA H ⟨tv, tv⟩ fun a w6 hA H hG => ?_
 refine list_end ?_
 refine hK3 _ _ ?_
 refine go_seq fun K7 hK7 => ?_
 refine go_seq fun K8 hK8 => ?_
 refine q_reg [(10, iv (l.length : Int))] [(3, (.map (some b4))), (9, vl), (10, iv (l.length : Int)), (11, iv 0)] (TT ∧ (LenOk vl (l.length : Int)) ∧ TT ∧ True) hA H ⟨tv, by exact len_ok (H.arg hL), tv, tv⟩ fun a w9 hA H hG => ?_
 refine hK8 _ _ ?_
 refine go_block 0 ?_
 refine go_loop_ (Int × List (Int × Int)) (fun x_ a W => (fun (i : Int) (m : List (Int × Int)) => EnvOk 34 a (keepEnv [(3, (.map (some b4))), (9, vl), (10, iv (l.length : Int)), (11, iv i)]) ∧ (∃ S, Fr (org w) W S [mapN Try.prog 3 b4 m]) ∧ 0 ≤ i ∧ i ≤ (l.length : Int) ∧ (m.length : Int) ≤ 2 * i ∧ ∀ v, lastAt m v = cntO (endsK (l.take i.toNat)) v) x_.1 x_.2) (fun x_ => (fun (i : Int) (m : List (Int × Int)) => ((l.length : Int) - i).toNat) x_.1 x_.2) (0, []) ?_ (fun x_ a w11 hI => ?_)
 · (try dsimp only); exact ⟨env_sub _ hA, ⟨_, H⟩, by omega, by omega, by simp, fun v => by simp [lastAt, cntO, endsK]⟩
 obtain ⟨i, m⟩ := x_
 obtain ⟨hA, ⟨S, H⟩, h0, h0b, hml, hm⟩ := hI
 try dsimp only at h0 h0b hml hm
 replace H : Fr _ _ _ [mapN Try.prog 3 b4 m] := H
 refine go_seq fun K12 hK12 => ?_
 refine q_reg [] [(3, (.map (some b4))), (9, vl), (10, iv (l.length : Int)), (11, iv i), (12, .bool (decide (i < (l.length : Int))))] (TT ∧ True) hA H ⟨tv, tv⟩ fun a w13 hA H hG => ?_
 refine hK12 _ _ ?_
 refine go_seq fun K14 hK14 => ?_
 refine go_cond hA (.tmp 12) (decide (i < (l.length : Int))) (fun hb15 => ?_) (fun hb15 => ?_)
 · have hhb15 := of_decide_eq_true hb15
   refine go_skip ?_
   refine hK14 _ _ ?_
   refine go_seq fun K16 hK16 => ?_
   refine go_block 1 ?_
   refine go_seq fun K17 hK17 => ?_
   refine region_list ?_
   refine q_list 0 2 [(14, .agg #[.int .i64 ((l.getD i.toNat (0, (0, 0))).1), .int .i64 (((l.getD i.toNat (0, (0, 0))).2).1), .int .i64 (((l.getD i.toNat (0, (0, 0))).2).2)])] [(3, (.map (some b4))), (9, vl), (10, iv (l.length : Int)), (11, iv i), (14, .agg #[.int .i64 ((l.getD i.toNat (0, (0, 0))).1), .int .i64 (((l.getD i.toNat (0, (0, 0))).2).1), .int .i64 (((l.getD i.toNat (0, (0, 0))).2).2)])] (((Try.prog.info? 92).isSome = true ∧ IdxOk vl i) ∧ ((Try.prog.info? 92).isSome = true ∧ RowOk (On w13) (hdB vl) (hdO vl + i.toNat * 3) (Try.prog.cellsOf 92) #[.int .i64 ((l.getD i.toNat (0, (0, 0))).1), .int .i64 (((l.getD i.toNat (0, (0, 0))).2).1), .int .i64 (((l.getD i.toNat (0, (0, 0))).2).2)]) ∧ True) hA H ⟨⟨by kernel_rfl, by exact idx_ok (H.arg hL) (by omega) (by omega)⟩, ⟨by kernel_rfl, by exact row_flat (i := i) (H.arg hL) (by omega) (by omega) (0, (0, 0))⟩, tv⟩ fun a w18 hA H hG => ?_
   refine list_at 2 ?_; refine q_alloc 2 5 92 [.int .i64 0, .int .i64 0, .int .i64 0] [(3, (.map (some b4))), (9, vl), (10, iv (l.length : Int)), (11, iv i), (14, .agg #[.int .i64 ((l.getD i.toNat (0, (0, 0))).1), .int .i64 (((l.getD i.toNat (0, (0, 0))).2).1), .int .i64 (((l.getD i.toNat (0, (0, 0))).2).2)])] hA H fun b19 a w20 H hA hG hge_b19 => ?_
   clear hge_b19
   refine list_at 3 ?_; refine q_store 3 92 (.tmp 5) (.tmp 14) 0 b19 (0) 92 [.int .i64 0, .int .i64 0, .int .i64 0] [.int .i64 ((l.getD i.toNat (0, (0, 0))).1), .int .i64 (((l.getD i.toNat (0, (0, 0))).2).1), .int .i64 (((l.getD i.toNat (0, (0, 0))).2).2)] [.int .i64 ((l.getD i.toNat (0, (0, 0))).1), .int .i64 (((l.getD i.toNat (0, (0, 0))).2).1), .int .i64 (((l.getD i.toNat (0, (0, 0))).2).2)] (.agg #[.int .i64 ((l.getD i.toNat (0, (0, 0))).1), .int .i64 (((l.getD i.toNat (0, (0, 0))).2).1), .int .i64 (((l.getD i.toNat (0, (0, 0))).2).2)]) [(3, (.map (some b4))), (5, pv b19), (9, vl), (10, iv (l.length : Int)), (11, iv i)] hA H rfl rfl (Nat.le_of_ble_eq_true (by kernel_rfl)) rfl (fun v hv => by simp only [List.mem_cons, List.not_mem_nil, or_false] at hv; rcases hv with rfl | rfl | rfl; exact rfl; exact rfl; exact rfl) fun a w21 H hA hG => ?_
   replace H : Fr _ _ _ [.box b19 92 [.int .i64 ((l.getD i.toNat (0, (0, 0))).1), .int .i64 (((l.getD i.toNat (0, (0, 0))).2).1), .int .i64 (((l.getD i.toNat (0, (0, 0))).2).2)], mapN Try.prog 3 b4 m] := H
   refine list_end ?_
   refine hK17 _ _ ?_
   refine go_seq fun K22 hK22 => ?_
   have hwi := hwf i h0 (by omega)
   have hw1 : wfI (l.getD i.toNat (0, (0, 0))).1 := hwi.1
   have hw2 : wfI (l.getD i.toNat (0, (0, 0))).2.1 := hwi.2.1
   unfold wfI at hw1 hw2
   have hb1 := cnt_bd hm (l.getD i.toNat (0, (0, 0))).1
   have hlt : (endsK (l.take i.toNat)).length ≤ 2 * l.length := by rw [endsK_len, List.length_take]; omega
   have hm2 := cnt_put hm (lkA l i)
   have hb2 : _ := cnt_bd hm2 (l.getD i.toNat (0, (0, 0))).2.1
   rw [List.length_append] at hb2; simp only [List.length_cons, List.length_nil, lkA] at hb2
   refine region_list ?_
   refine q_list 0 5 [(17, iv ((l.getD i.toNat (0, (0, 0))).1)), (18, iv ((lastAt m ((l.getD i.toNat (0, (0, 0))).1)).getD 0))] [(3, (.map (some b4))), (5, pv b19), (9, vl), (10, iv (l.length : Int)), (11, iv i), (15, (.map (some b4))), (17, iv ((l.getD i.toNat (0, (0, 0))).1)), (19, iv (((lastAt m ((l.getD i.toNat (0, (0, 0))).1)).getD 0) + 1))] (TT ∧ (0 < Try.prog.cellsOf 3) ∧ (CellOk (On w21) b19 (0 + 0) (.int .i64 ((l.getD i.toNat (0, (0, 0))).1))) ∧ (∀ w', On w21 w' → (Instr.lookup 130 (.map (some b4)) (.int .i64 ((l.getD i.toNat (0, (0, 0))).1)) false).run Try.prog w' = .ok (.int .i64 ((lastAt m ((l.getD i.toNat (0, (0, 0))).1)).getD 0)) w') ∧ (InR .i64 (((lastAt m ((l.getD i.toNat (0, (0, 0))).1)).getD 0) + 1)) ∧ True) hA H ⟨tv, by decide +kernel, by exact box_cell H 0 rfl 0, by exact mapN_look H 1 rfl (obj_on H 1 rfl) ⟨by omega, by omega⟩ Try.underlying130 Try.underlying3 (fun w => by kernel_rfl), ⟨by omega, by omega⟩, tv⟩ fun a w23 hA H hG => ?_
   refine list_at 5 ?_; refine q_mapUpdateN 5 130 (.tmp 15) (.tmp 17) (.tmp 19) 1 b4 m ((l.getD i.toNat (0, (0, 0))).1) (((lastAt m ((l.getD i.toNat (0, (0, 0))).1)).getD 0) + 1) [(3, (.map (some b4))), (5, pv b19), (9, vl), (10, iv (l.length : Int)), (11, iv i)] hA H rfl ⟨by omega, by omega⟩ (by (try simp only [List.length_append, List.length_cons, List.length_nil]); omega) Try.underlying130 Try.underlying3 fun a w24 H hA hG => ?_
   replace H : Fr _ _ _ [.box b19 92 [.int .i64 ((l.getD i.toNat (0, (0, 0))).1), .int .i64 (((l.getD i.toNat (0, (0, 0))).2).1), .int .i64 (((l.getD i.toNat (0, (0, 0))).2).2)], mapN Try.prog 3 b4 (m ++ [((l.getD i.toNat (0, (0, 0))).1, ((lastAt m ((l.getD i.toNat (0, (0, 0))).1)).getD 0) + 1)])] := H
   refine list_end ?_
   refine hK22 _ _ ?_
   refine region_list ?_
   refine q_list 0 5 [(22, iv (((l.getD i.toNat (0, (0, 0))).2).1)), (23, iv ((lastAt (m ++ [((l.getD i.toNat (0, (0, 0))).1, ((lastAt m ((l.getD i.toNat (0, (0, 0))).1)).getD 0) + 1)]) (((l.getD i.toNat (0, (0, 0))).2).1)).getD 0))] [(3, (.map (some b4))), (9, vl), (10, iv (l.length : Int)), (11, iv i), (20, (.map (some b4))), (22, iv (((l.getD i.toNat (0, (0, 0))).2).1)), (24, iv (((lastAt (m ++ [((l.getD i.toNat (0, (0, 0))).1, ((lastAt m ((l.getD i.toNat (0, (0, 0))).1)).getD 0) + 1)]) (((l.getD i.toNat (0, (0, 0))).2).1)).getD 0) + 1))] (TT ∧ (0 < Try.prog.cellsOf 3) ∧ (CellOk (On w24) b19 (0 + 1) (.int .i64 (((l.getD i.toNat (0, (0, 0))).2).1))) ∧ (∀ w', On w24 w' → (Instr.lookup 130 (.map (some b4)) (.int .i64 (((l.getD i.toNat (0, (0, 0))).2).1)) false).run Try.prog w' = .ok (.int .i64 ((lastAt (m ++ [((l.getD i.toNat (0, (0, 0))).1, ((lastAt m ((l.getD i.toNat (0, (0, 0))).1)).getD 0) + 1)]) (((l.getD i.toNat (0, (0, 0))).2).1)).getD 0)) w') ∧ (InR .i64 (((lastAt (m ++ [((l.getD i.toNat (0, (0, 0))).1, ((lastAt m ((l.getD i.toNat (0, (0, 0))).1)).getD 0) + 1)]) (((l.getD i.toNat (0, (0, 0))).2).1)).getD 0) + 1)) ∧ True) hA H ⟨tv, by decide +kernel, by exact box_cell H 0 rfl 1, by exact mapN_look H 1 rfl (obj_on H 1 rfl) ⟨by omega, by omega⟩ Try.underlying130 Try.underlying3 (fun w => by kernel_rfl), ⟨by omega, by omega⟩, tv⟩ fun a w25 hA H hG => ?_
   refine list_at 5 ?_; refine q_mapUpdateN 5 130 (.tmp 20) (.tmp 22) (.tmp 24) 1 b4 (m ++ [((l.getD i.toNat (0, (0, 0))).1, ((lastAt m ((l.getD i.toNat (0, (0, 0))).1)).getD 0) + 1)]) (((l.getD i.toNat (0, (0, 0))).2).1) (((lastAt (m ++ [((l.getD i.toNat (0, (0, 0))).1, ((lastAt m ((l.getD i.toNat (0, (0, 0))).1)).getD 0) + 1)]) (((l.getD i.toNat (0, (0, 0))).2).1)).getD 0) + 1) [(3, (.map (some b4))), (9, vl), (10, iv (l.length : Int)), (11, iv i)] hA H rfl ⟨by omega, by omega⟩ (by (try simp only [List.length_append, List.length_cons, List.length_nil]); omega) Try.underlying130 Try.underlying3 fun a w26 H hA hG => ?_
   replace H : Fr _ _ _ [.box b19 92 [.int .i64 ((l.getD i.toNat (0, (0, 0))).1), .int .i64 (((l.getD i.toNat (0, (0, 0))).2).1), .int .i64 (((l.getD i.toNat (0, (0, 0))).2).2)], mapN Try.prog 3 b4 ((m ++ [((l.getD i.toNat (0, (0, 0))).1, ((lastAt m ((l.getD i.toNat (0, (0, 0))).1)).getD 0) + 1)]) ++ [(((l.getD i.toNat (0, (0, 0))).2).1, ((lastAt (m ++ [((l.getD i.toNat (0, (0, 0))).1, ((lastAt m ((l.getD i.toNat (0, (0, 0))).1)).getD 0) + 1)]) (((l.getD i.toNat (0, (0, 0))).2).1)).getD 0) + 1)])] := H
   refine list_end ?_
   refine hK16 _ _ ?_
   refine q_reg [] [(3, (.map (some b4))), (9, vl), (10, iv (l.length : Int)), (11, iv (i + 1))] ((InR .i64 (i + 1)) ∧ TT ∧ True) hA H ⟨⟨by omega, by omega⟩, tv, tv⟩ fun a w27 hA H hG => ?_
   replace H := H.drop 0
   refine ⟨(i + 1, (m ++ [((l.getD i.toNat (0, (0, 0))).1, ((lastAt m ((l.getD i.toNat (0, (0, 0))).1)).getD 0) + 1)]) ++ [(((l.getD i.toNat (0, (0, 0))).2).1, ((lastAt (m ++ [((l.getD i.toNat (0, (0, 0))).1, ((lastAt m ((l.getD i.toNat (0, (0, 0))).1)).getD 0) + 1)]) (((l.getD i.toNat (0, (0, 0))).2).1)).getD 0) + 1)]), ⟨env_sub _ hA, ⟨_, H⟩, ?_⟩, ?_⟩
   · (try dsimp only); refine ⟨by omega, by omega, by (try simp only [List.length_append, List.length_cons, List.length_nil]); omega, fun v => ?_⟩; rw [endsK_snoc h0 (by omega)]; rw [show endsK (l.take i.toNat) ++ [lkA l i, lkB l i] = (endsK (l.take i.toNat) ++ [lkA l i]) ++ [lkB l i] by simp]; exact cnt_put hm2 (lkB l i) v
   (try dsimp only); omega
 have hhb15 := of_decide_eq_false hb15
 refine go_exit 0 ?_
 refine hK7 _ _ ?_
 refine go_seq fun K28 hK28 => ?_
 refine go_seq fun K29 hK29 => ?_
 rw [List.take_of_length_le (by omega)] at hm
 refine region_list ?_
 refine q_list 0 1 [] [(26, (.map (some b4)))] (TT ∧ True) hA H ⟨tv, tv⟩ fun a w30 hA H hG => ?_
 refine list_at 1 ?_; refine q_rangeM 1 27 130 (.tmp 26) 0 b4 m [] hA H rfl Try.underlying130 Try.underlying3 fun rb32 X33 Y34 left35 cnt36 a w31 hRg hRl H hA hG => ?_
 replace H : Fr _ _ _ [isO rb32 Y34, isO b4 X33] := H
 refine list_end ?_
 refine hK29 _ _ ?_
 refine go_block 2 ?_
 refine go_loop_ (Obj × (Lit → Bool) × Nat) (fun x_ a W => (fun (Y : Obj) (left : (Lit → Bool)) (cn : Nat) => EnvOk 34 a (keepEnv [(27, pv rb32)]) ∧ (∃ S, Fr (org w) W S [isO rb32 Y, isO b4 X33]) ∧ RangeOf Try.prog 3 b4 rb32 m left cn X33 Y ∧ (∀ k c, lastAt m k = some c → left (.int .i64 k) = false → c = 2)) x_.1 x_.2.1 x_.2.2) (fun x_ => (fun (Y : Obj) (left : (Lit → Bool)) (cn : Nat) => cn) x_.1 x_.2.1 x_.2.2) (Y34, left35, cnt36) ?_ (fun x_ a w38 hI => ?_)
 · (try dsimp only); exact ⟨env_sub _ hA, ⟨_, H⟩, hRg, fun k c hk hl => by rw [hRl, hk] at hl; cases hl⟩
 obtain ⟨Y, left, cn⟩ := x_
 obtain ⟨hA, ⟨S, H⟩, hRg, hld⟩ := hI
 try dsimp only at hRg hld
 replace H : Fr _ _ _ [isO rb32 Y, isO b4 X33] := H
 refine go_seq fun K39 hK39 => ?_
 refine region_list ?_
 refine list_at 0 ?_; refine q_nextM 0 28 (.tmp 27) 0 1 b4 rb32 m left cn X33 Y [(27, pv rb32)] hA H rfl rfl hRg Try.underlying3 (fun mk41 mc42 left43 cnt44 Y45 a w40 hmk hmc hml hRg hcn H hE hA hG => ?_) (fun hmd a hA => ?_)
 · replace H : Fr _ _ _ [isO rb32 Y45, isO b4 X33] := H
   refine q_list 1 1 [] [(27, pv rb32), (29, .bool true)] (TT ∧ True) hA H ⟨tv, tv⟩ fun a w46 hA H hG => ?_
   refine list_end ?_
   refine hK39 _ _ ?_
   refine go_seq fun K47 hK47 => ?_
   refine go_cond hA (.tmp 29) true (fun _ => ?_) (fun h => by cases h)
   refine go_skip ?_
   refine hK47 _ _ ?_
   refine go_block 3 ?_
   refine go_seq fun K49 hK49 => ?_
   refine region_list ?_
   refine list_at 0 ?_; refine q_entry 0 30 (.tmp 27) 0 1 b4 rb32 X33 Y45 (.tuple #[.int .i64 mk41, .int .i64 mc42]) [(27, pv rb32)] hA H rfl rfl hE fun a hA => ?_
   refine q_list 1 2 [] [(7, iv mc42), (27, pv rb32)] (TT ∧ TT ∧ True) hA H ⟨tv, tv, tv⟩ fun a w50 hA H hG => ?_
   refine list_end ?_
   refine hK49 _ _ ?_
   refine go_seq fun K51 hK51 => ?_
   refine q_reg [] [(27, pv rb32), (33, .bool (!decide (mc42 = 2)))] (TT ∧ TT ∧ True) hA H ⟨tv, tv, tv⟩ fun a w52 hA H hG => ?_
   refine hK51 _ _ ?_
   refine go_cond hA (.tmp 33) (!decide (mc42 = 2)) (fun hb53 => ?_) (fun hb53 => ?_)
   · have hhb53 := of_decide_eq_false (nT hb53)
     refine go_seq fun K54 hK54 => ?_
     refine q_reg [] [(2, .bool false)] (TT ∧ True) hA H ⟨tv, tv⟩ fun a w55 hA H hG => ?_
     refine hK54 _ _ ?_
     refine go_ret_ ?_
     refine ret_one 2 (.bool false) hA ?_
     exact ans_b' (rings_F hm hmc (by omega)).symm H.below
   have hhb53 := of_decide_eq_true (nF hb53)
   refine go_skip ?_
   refine ⟨(Y45, left43, cnt44), ⟨env_sub _ hA, ⟨_, H⟩, ?_⟩, ?_⟩
   · (try dsimp only); exact ⟨hRg, range_step hml hmc hld (by omega)⟩
   (try dsimp only); omega
 skip
 refine q_list 1 1 [] [(27, pv rb32), (29, .bool false)] (TT ∧ True) hA H ⟨tv, tv⟩ fun a w56 hA H hG => ?_
 refine list_end ?_
 refine hK39 _ _ ?_
 refine go_seq fun K57 hK57 => ?_
 refine go_cond hA (.tmp 29) false (fun h => by cases h) (fun _ => ?_)
 refine go_exit 2 ?_
 refine hK28 _ _ ?_
 refine go_seq fun K59 hK59 => ?_
 refine q_reg [] [(2, .bool true)] (TT ∧ True) hA H ⟨tv, tv⟩ fun a w60 hA H hG => ?_
 refine hK59 _ _ ?_
 refine go_ret_ ?_
 refine ret_one 2 (.bool true) hA ?_
 exact ans_b' (rings_T hm (fun k c hk => hld k c hk (hmd k))).symm H.below
theorem right_any (n : Int) (ve : Value) (E : List (Int × Int)) (w : World) (hn : -9223372036854775808 ≤ n ∧ n ≤ 9223372036854775807) (hE : Rd (· < w.heap.size) w ve E) :
 Calls Try.prog 20 [.agg #[.int .i64 n, ve]].toArray w (Ans (.int .i64 (rightE n E)) w) := by
 refine enter Try.f20 50 Try.func20 fun a hA => ?_
 replace hA := env_sub [(0, .agg #[.int .i64 n, ve])] hA
 have H := Fr.start (org w)
 refine go_seq fun K1 hK1 => ?_
 refine region_list ?_
 refine list_at 0 ?_; refine q_box 0 1 24 (.tmp 0) (.agg #[.int .i64 n, ve]) [.int .i64 n, ve] [] hA H fun b2 a w3 H hA hG hge_b2 => ?_
 clear hge_b2
 refine q_list 1 1 [] [(1, pv b2)] (TT ∧ True) hA H ⟨tv, tv⟩ fun a w4 hA H hG => ?_
 refine list_end ?_
 refine hK1 _ _ ?_
 refine go_seq fun K5 hK5 => ?_
 refine go_seq fun K6 hK6 => ?_
 refine q_reg [(6, iv n)] [(1, pv b2), (7, .bool (decide (n < 0)))] ((0 < Try.prog.cellsOf 3) ∧ (CellOk (On w4) b2 (0 + 0) (.int .i64 n)) ∧ TT ∧ True) hA H ⟨by decide +kernel, by exact box_cell H 0 rfl 0, tv, tv⟩ fun a w7 hA H hG => ?_
 refine hK6 _ _ ?_
 refine go_cond hA (.tmp 7) (decide (n < 0)) (fun hb8 => ?_) (fun hb8 => ?_)
 · have hhb8 := of_decide_eq_true hb8
   refine go_seq fun K9 hK9 => ?_
   refine q_reg [] [(2, iv 3)] (TT ∧ True) hA H ⟨tv, tv⟩ fun a w10 hA H hG => ?_
   refine hK9 _ _ ?_
   refine go_ret_ ?_
   refine ret_one 2 (.int .i64 3) hA ?_
   exact ans_i' (by unfold rightE; first | rw [if_pos (by omega)] | rw [if_neg (by omega), if_pos (by omega)]) H.below
 have hhb8 := of_decide_eq_false hb8
 refine go_skip ?_
 refine hK5 _ _ ?_
 refine go_seq fun K11 hK11 => ?_
 refine go_seq fun K12 hK12 => ?_
 refine q_reg [(9, iv n), (13, ve), (14, iv (E.length : Int)), (16, iv n)] [(1, pv b2), (19, .bool ((decide ((1024 : Int) < n)) || (decide (1024 - n < (E.length : Int)))))] ((0 < Try.prog.cellsOf 3) ∧ (CellOk (On w7) b2 (0 + 0) (.int .i64 n)) ∧ TT ∧ TT ∧ ((decide ((1024 : Int) < n)) = false → 0 < Try.prog.cellsOf 22) ∧ ((decide ((1024 : Int) < n)) = false → CellOk (On w7) b2 (0 + 1) (ve)) ∧ ((decide ((1024 : Int) < n)) = false → LenOk ve (E.length : Int)) ∧ ((decide ((1024 : Int) < n)) = false → 0 < Try.prog.cellsOf 3) ∧ ((decide ((1024 : Int) < n)) = false → CellOk (On w7) b2 (0 + 0) (.int .i64 n)) ∧ ((decide ((1024 : Int) < n)) = false → InR .i64 (1024 - n)) ∧ ((decide ((1024 : Int) < n)) = false → True) ∧ TT ∧ True) hA H ⟨by decide +kernel, by exact box_cell H 0 rfl 0, tv, tv, fun _ => by decide +kernel, fun _ => by exact box_cell H 0 rfl 1, fun _ => by exact len_ok (H.arg hE), fun _ => by decide +kernel, fun _ => by exact box_cell H 0 rfl 0, fun hg0 => by replace hg0 := of_decide_eq_false hg0; exact ⟨by omega, by omega⟩, fun _ => tv, tv, tv⟩ fun a w13 hA H hG => ?_
 refine hK12 _ _ ?_
 refine go_cond hA (.tmp 19) ((decide ((1024 : Int) < n)) || (decide (1024 - n < (E.length : Int)))) (fun hb14 => ?_) (fun hb14 => ?_)
 · have hhb14 := (oT hb14).imp (fun h => of_decide_eq_true h) (fun h => of_decide_eq_true h)
   refine go_seq fun K15 hK15 => ?_
   refine q_reg [] [(2, iv 2)] (TT ∧ True) hA H ⟨tv, tv⟩ fun a w16 hA H hG => ?_
   refine hK15 _ _ ?_
   refine go_ret_ ?_
   refine ret_one 2 (.int .i64 2) hA ?_
   exact ans_i' (by unfold rightE; first | rw [if_pos (by omega)] | rw [if_neg (by omega), if_pos (by omega)]) H.below
 have hhb14 := (⟨of_decide_eq_false ((oF hb14).1), of_decide_eq_false ((oF hb14).2)⟩ : _ ∧ _)
 refine go_skip ?_
 refine hK11 _ _ ?_
 refine go_seq fun K17 hK17 => ?_
 refine go_seq fun K18 hK18 => ?_
 refine q_reg [(21, ve), (22, iv (E.length : Int))] [(1, pv b2), (21, ve), (22, iv (E.length : Int)), (23, iv 0)] ((0 < Try.prog.cellsOf 22) ∧ (CellOk (On w13) b2 (0 + 1) (ve)) ∧ (LenOk ve (E.length : Int)) ∧ TT ∧ True) hA H ⟨by decide +kernel, by exact box_cell H 0 rfl 1, by exact len_ok (H.arg hE), tv, tv⟩ fun a w19 hA H hG => ?_
 refine hK18 _ _ ?_
 refine go_block 0 ?_
 refine go_loop_ (Int) (fun x_ a W => (fun (i : Int) => EnvOk 50 a (keepEnv [(1, pv b2), (21, ve), (22, iv (E.length : Int)), (23, iv i)]) ∧ (∃ S, Fr (org w) W S [.box b2 24 [.int .i64 n, ve]]) ∧ 0 ≤ i ∧ ∀ j : Nat, (j : Int) < i → okE n (E.getD j (0, 0))) x_) (fun x_ => (fun (i : Int) => ((E.length : Int) - i).toNat) x_) (0) ?_ (fun i a w21 hI => ?_)
 · (try dsimp only); exact ⟨env_sub _ hA, ⟨_, H⟩, by omega, fun j hj => by omega⟩
 obtain ⟨hA, ⟨S, H⟩, h0, hok⟩ := hI
 try dsimp only at h0 hok
 refine go_seq fun K22 hK22 => ?_
 refine q_reg [] [(1, pv b2), (21, ve), (22, iv (E.length : Int)), (23, iv i), (24, .bool (decide (i < (E.length : Int))))] (TT ∧ True) hA H ⟨tv, tv⟩ fun a w23 hA H hG => ?_
 refine hK22 _ _ ?_
 refine go_seq fun K24 hK24 => ?_
 refine go_cond hA (.tmp 24) (decide (i < (E.length : Int))) (fun hb25 => ?_) (fun hb25 => ?_)
 · have hhb25 := of_decide_eq_true hb25
   refine go_skip ?_
   refine hK24 _ _ ?_
   refine go_seq fun K26 hK26 => ?_
   refine go_block 1 ?_
   refine go_seq fun K27 hK27 => ?_
   refine region_list ?_
   refine q_list 0 2 [(26, .agg #[.int .i64 ((E.getD i.toNat (0, 0)).1), .int .i64 ((E.getD i.toNat (0, 0)).2)])] [(1, pv b2), (21, ve), (22, iv (E.length : Int)), (23, iv i), (26, .agg #[.int .i64 ((E.getD i.toNat (0, 0)).1), .int .i64 ((E.getD i.toNat (0, 0)).2)])] (((Try.prog.info? 99).isSome = true ∧ IdxOk ve i) ∧ ((Try.prog.info? 99).isSome = true ∧ RowOk (On w23) (hdB ve) (hdO ve + i.toNat * 2) (Try.prog.cellsOf 99) #[.int .i64 ((E.getD i.toNat (0, 0)).1), .int .i64 ((E.getD i.toNat (0, 0)).2)]) ∧ True) hA H ⟨⟨by kernel_rfl, by exact idx_ok (H.arg hE) (by omega) (by omega)⟩, ⟨by kernel_rfl, by exact row_flat (i := i) (H.arg hE) (by omega) (by omega) (0, 0)⟩, tv⟩ fun a w28 hA H hG => ?_
   refine list_at 2 ?_; refine q_alloc 2 4 99 [.int .i64 0, .int .i64 0] [(1, pv b2), (21, ve), (22, iv (E.length : Int)), (23, iv i), (26, .agg #[.int .i64 ((E.getD i.toNat (0, 0)).1), .int .i64 ((E.getD i.toNat (0, 0)).2)])] hA H fun b29 a w30 H hA hG hge_b29 => ?_
   clear hge_b29
   refine list_at 3 ?_; refine q_store 3 99 (.tmp 4) (.tmp 26) 0 b29 (0) 99 [.int .i64 0, .int .i64 0] [.int .i64 ((E.getD i.toNat (0, 0)).1), .int .i64 ((E.getD i.toNat (0, 0)).2)] [.int .i64 ((E.getD i.toNat (0, 0)).1), .int .i64 ((E.getD i.toNat (0, 0)).2)] (.agg #[.int .i64 ((E.getD i.toNat (0, 0)).1), .int .i64 ((E.getD i.toNat (0, 0)).2)]) [(1, pv b2), (4, pv b29), (21, ve), (22, iv (E.length : Int)), (23, iv i)] hA H rfl rfl (Nat.le_of_ble_eq_true (by kernel_rfl)) rfl (fun v hv => by simp only [List.mem_cons, List.not_mem_nil, or_false] at hv; rcases hv with rfl | rfl; exact rfl; exact rfl) fun a w31 H hA hG => ?_
   replace H : Fr _ _ _ [.box b29 99 [.int .i64 ((E.getD i.toNat (0, 0)).1), .int .i64 ((E.getD i.toNat (0, 0)).2)], .box b2 24 [.int .i64 n, ve]] := H
   refine list_end ?_
   refine hK27 _ _ ?_
   refine go_seq fun K32 hK32 => ?_
   refine q_reg [(28, iv ((E.getD i.toNat (0, 0)).1)), (32, iv ((E.getD i.toNat (0, 0)).1)), (34, iv n), (39, iv ((E.getD i.toNat (0, 0)).2)), (44, iv ((E.getD i.toNat (0, 0)).2)), (46, iv n)] [(1, pv b2), (21, ve), (22, iv (E.length : Int)), (23, iv i), (48, .bool ((((decide ((E.getD i.toNat (0, 0)).1 < 0)) || (decide (n ≤ (E.getD i.toNat (0, 0)).1))) || (decide ((E.getD i.toNat (0, 0)).2 < 0))) || (decide (n ≤ (E.getD i.toNat (0, 0)).2))))] ((0 < Try.prog.cellsOf 3) ∧ (CellOk (On w31) b29 (0 + 0) (.int .i64 ((E.getD i.toNat (0, 0)).1))) ∧ TT ∧ TT ∧ ((decide ((E.getD i.toNat (0, 0)).1 < 0)) = false → 0 < Try.prog.cellsOf 3) ∧ ((decide ((E.getD i.toNat (0, 0)).1 < 0)) = false → CellOk (On w31) b29 (0 + 0) (.int .i64 ((E.getD i.toNat (0, 0)).1))) ∧ ((decide ((E.getD i.toNat (0, 0)).1 < 0)) = false → 0 < Try.prog.cellsOf 3) ∧ ((decide ((E.getD i.toNat (0, 0)).1 < 0)) = false → CellOk (On w31) b2 (0 + 0) (.int .i64 n)) ∧ ((decide ((E.getD i.toNat (0, 0)).1 < 0)) = false → True) ∧ TT ∧ TT ∧ (((decide ((E.getD i.toNat (0, 0)).1 < 0)) || (decide (n ≤ (E.getD i.toNat (0, 0)).1))) = false → 0 < Try.prog.cellsOf 3) ∧ (((decide ((E.getD i.toNat (0, 0)).1 < 0)) || (decide (n ≤ (E.getD i.toNat (0, 0)).1))) = false → CellOk (On w31) b29 (0 + 1) (.int .i64 ((E.getD i.toNat (0, 0)).2))) ∧ (((decide ((E.getD i.toNat (0, 0)).1 < 0)) || (decide (n ≤ (E.getD i.toNat (0, 0)).1))) = false → True) ∧ TT ∧ TT ∧ ((((decide ((E.getD i.toNat (0, 0)).1 < 0)) || (decide (n ≤ (E.getD i.toNat (0, 0)).1))) || (decide ((E.getD i.toNat (0, 0)).2 < 0))) = false → 0 < Try.prog.cellsOf 3) ∧ ((((decide ((E.getD i.toNat (0, 0)).1 < 0)) || (decide (n ≤ (E.getD i.toNat (0, 0)).1))) || (decide ((E.getD i.toNat (0, 0)).2 < 0))) = false → CellOk (On w31) b29 (0 + 1) (.int .i64 ((E.getD i.toNat (0, 0)).2))) ∧ ((((decide ((E.getD i.toNat (0, 0)).1 < 0)) || (decide (n ≤ (E.getD i.toNat (0, 0)).1))) || (decide ((E.getD i.toNat (0, 0)).2 < 0))) = false → 0 < Try.prog.cellsOf 3) ∧ ((((decide ((E.getD i.toNat (0, 0)).1 < 0)) || (decide (n ≤ (E.getD i.toNat (0, 0)).1))) || (decide ((E.getD i.toNat (0, 0)).2 < 0))) = false → CellOk (On w31) b2 (0 + 0) (.int .i64 n)) ∧ ((((decide ((E.getD i.toNat (0, 0)).1 < 0)) || (decide (n ≤ (E.getD i.toNat (0, 0)).1))) || (decide ((E.getD i.toNat (0, 0)).2 < 0))) = false → True) ∧ TT ∧ True) hA H ⟨by decide +kernel, by exact box_cell H 0 rfl 0, tv, tv, fun _ => by decide +kernel, fun _ => by exact box_cell H 0 rfl 0, fun _ => by decide +kernel, fun _ => by exact box_cell H 1 rfl 0, fun _ => tv, tv, tv, fun _ => by decide +kernel, fun _ => by exact box_cell H 0 rfl 1, fun _ => tv, tv, tv, fun _ => by decide +kernel, fun _ => by exact box_cell H 0 rfl 1, fun _ => by decide +kernel, fun _ => by exact box_cell H 1 rfl 0, fun _ => tv, tv, tv⟩ fun a w33 hA H hG => ?_
   refine hK32 _ _ ?_
   refine go_cond hA (.tmp 48) ((((decide ((E.getD i.toNat (0, 0)).1 < 0)) || (decide (n ≤ (E.getD i.toNat (0, 0)).1))) || (decide ((E.getD i.toNat (0, 0)).2 < 0))) || (decide (n ≤ (E.getD i.toNat (0, 0)).2))) (fun hb34 => ?_) (fun hb34 => ?_)
   · have hhb34 := (oT hb34).imp (fun h => (oT h).imp (fun h => (oT h).imp (fun h => of_decide_eq_true h) (fun h => of_decide_eq_true h)) (fun h => of_decide_eq_true h)) (fun h => of_decide_eq_true h)
     refine go_seq fun K35 hK35 => ?_
     refine q_reg [] [(2, iv 3)] (TT ∧ True) hA H ⟨tv, tv⟩ fun a w36 hA H hG => ?_
     refine hK35 _ _ ?_
     refine go_ret_ ?_
     refine ret_one 2 (.int .i64 3) hA ?_
     exact ans_i' ((rightE_bad (by omega) (by omega) (by omega) h0 (by omega) (by unfold okE; have := hhb34; omega)).symm) H.below
   have hhb34 := (⟨(⟨(⟨of_decide_eq_false ((oF ((oF ((oF hb34).1)).1)).1), of_decide_eq_false ((oF ((oF ((oF hb34).1)).1)).2)⟩ : _ ∧ _), of_decide_eq_false ((oF ((oF hb34).1)).2)⟩ : _ ∧ _), of_decide_eq_false ((oF hb34).2)⟩ : _ ∧ _)
   refine go_skip ?_
   refine hK26 _ _ ?_
   refine q_reg [] [(1, pv b2), (21, ve), (22, iv (E.length : Int)), (23, iv (i + 1))] ((InR .i64 (i + 1)) ∧ TT ∧ True) hA H ⟨⟨by omega, by omega⟩, tv, tv⟩ fun a w37 hA H hG => ?_
   replace H := H.drop 0
   refine ⟨(i + 1), ⟨env_sub _ hA, ⟨_, H⟩, ?_⟩, ?_⟩
   · (try dsimp only); exact ⟨by omega, fun j hj => if e : (j : Int) = i then (by rw [show j = i.toNat by omega]; unfold okE; have := hhb34; omega) else hok j (by omega)⟩
   (try dsimp only); omega
 have hhb25 := of_decide_eq_false hb25
 refine go_exit 0 ?_
 refine hK17 _ _ ?_
 refine go_seq fun K38 hK38 => ?_
 refine q_reg [] [(2, iv 0)] (TT ∧ True) hA H ⟨tv, tv⟩ fun a w39 hA H hG => ?_
 refine hK38 _ _ ?_
 refine go_ret_ ?_
 refine ret_one 2 (.int .i64 0) hA ?_
 exact ans_i' ((rightE_ok (by omega) (by omega) (by omega) (by omega) hok).symm) H.below
theorem rising_any (v : Value) (l : List Int) (n : Int) (w : World) (hl : Rd (· < w.heap.size) w v l) :
 Calls Try.prog 73 [v, .int .i64 n].toArray w (Ans (.bool (decide (risesP l n))) w) := by
 have hlen := rd_len hl
 refine enter Try.f73 35 Try.func73 fun a hA => ?_
 replace hA := env_sub [(0, v), (1, iv n)] hA
 have H := Fr.start (org w)
 refine go_seq fun K1 hK1 => ?_
 refine q_reg [] [(0, v), (1, iv n)] (TT ∧ True) hA H ⟨tv, tv⟩ fun a w2 hA H hG => ?_
 refine hK1 _ _ ?_
 refine go_seq fun K3 hK3 => ?_
 refine go_seq fun K4 hK4 => ?_
 refine q_reg [(8, iv (l.length : Int))] [(0, v), (1, iv n), (7, v), (8, iv (l.length : Int)), (9, iv 0)] (TT ∧ (LenOk v (l.length : Int)) ∧ TT ∧ True) hA H ⟨tv, by exact len_ok (H.arg hl), tv, tv⟩ fun a w5 hA H hG => ?_
 refine hK4 _ _ ?_
 refine go_block 0 ?_
 refine go_loop_ (Int) (fun x_ a W => (fun (i : Int) => EnvOk 35 a (keepEnv [(0, v), (1, iv n), (7, v), (8, iv (l.length : Int)), (9, iv i)]) ∧ (∃ S, Fr (org w) W S []) ∧ 0 ≤ i ∧ ∀ j : Nat, (j : Int) < i → 0 ≤ l.getD j 0 ∧ l.getD j 0 < n ∧ (0 < j → l.getD (j - 1) 0 < l.getD j 0)) x_) (fun x_ => (fun (i : Int) => ((l.length : Int) - i).toNat) x_) (0) ?_ (fun i a w7 hI => ?_)
 · (try dsimp only); exact ⟨env_sub _ hA, ⟨_, H⟩, by omega, fun j hj => by omega⟩
 obtain ⟨hA, ⟨S, H⟩, h0, hok⟩ := hI
 try dsimp only at h0 hok
 refine go_seq fun K8 hK8 => ?_
 refine q_reg [] [(0, v), (1, iv n), (7, v), (8, iv (l.length : Int)), (9, iv i), (10, .bool (decide (i < (l.length : Int))))] (TT ∧ True) hA H ⟨tv, tv⟩ fun a w9 hA H hG => ?_
 refine hK8 _ _ ?_
 refine go_seq fun K10 hK10 => ?_
 refine go_cond hA (.tmp 10) (decide (i < (l.length : Int))) (fun hb11 => ?_) (fun hb11 => ?_)
 · have hhb11 := of_decide_eq_true hb11
   refine go_skip ?_
   refine hK10 _ _ ?_
   refine go_seq fun K12 hK12 => ?_
   refine go_block 1 ?_
   refine go_seq fun K13 hK13 => ?_
   refine q_reg [(13, iv (l.getD i.toNat 0))] [(0, v), (1, iv n), (5, iv i), (6, iv (l.getD i.toNat 0)), (7, v), (8, iv (l.length : Int)), (9, iv i)] (TT ∧ ((Try.prog.info? 3).isSome = true ∧ IdxOk v i) ∧ (CellOk (On w9) (hdB v) (hdO v + i.toNat * 1) (.int .i64 (l.getD i.toNat 0))) ∧ TT ∧ TT ∧ True) hA H ⟨tv, ⟨by kernel_rfl, by exact idx_ok (H.arg hl) (by omega) (by omega)⟩, by exact cell_flat (i := i) (H.arg hl) (by omega) (by omega) 0 0, tv, tv, tv⟩ fun a w14 hA H hG => ?_
   refine hK13 _ _ ?_
   refine go_seq fun K15 hK15 => ?_
   refine q_reg [(30, iv (l.getD (i - 1).toNat 0))] [(0, v), (1, iv n), (7, v), (8, iv (l.length : Int)), (9, iv i), (33, .bool (((decide ((l.getD i.toNat 0) < 0)) || (decide (n ≤ (l.getD i.toNat 0)))) || ((decide ((0 : Int) < i)) && (decide ((l.getD i.toNat 0) ≤ (l.getD (i - 1).toNat 0))))))] (TT ∧ TT ∧ TT ∧ ((decide ((l.getD i.toNat 0) < 0)) = false → True) ∧ ((decide ((l.getD i.toNat 0) < 0)) = false → True) ∧ ((decide ((l.getD i.toNat 0) < 0)) = false → True) ∧ TT ∧ TT ∧ (((decide ((l.getD i.toNat 0) < 0)) || (decide (n ≤ (l.getD i.toNat 0)))) = false → True) ∧ (((decide ((l.getD i.toNat 0) < 0)) || (decide (n ≤ (l.getD i.toNat 0)))) = false → True) ∧ (((decide ((l.getD i.toNat 0) < 0)) || (decide (n ≤ (l.getD i.toNat 0)))) = false → True) ∧ (((decide ((l.getD i.toNat 0) < 0)) || (decide (n ≤ (l.getD i.toNat 0)))) = false → (decide ((0 : Int) < i)) = true → True) ∧ (((decide ((l.getD i.toNat 0) < 0)) || (decide (n ≤ (l.getD i.toNat 0)))) = false → (decide ((0 : Int) < i)) = true → True) ∧ (((decide ((l.getD i.toNat 0) < 0)) || (decide (n ≤ (l.getD i.toNat 0)))) = false → (decide ((0 : Int) < i)) = true → True) ∧ (((decide ((l.getD i.toNat 0) < 0)) || (decide (n ≤ (l.getD i.toNat 0)))) = false → (decide ((0 : Int) < i)) = true → InR .i64 (i - 1)) ∧ (((decide ((l.getD i.toNat 0) < 0)) || (decide (n ≤ (l.getD i.toNat 0)))) = false → (decide ((0 : Int) < i)) = true → (Try.prog.info? 3).isSome = true ∧ IdxOk v (i - 1)) ∧ (((decide ((l.getD i.toNat 0) < 0)) || (decide (n ≤ (l.getD i.toNat 0)))) = false → (decide ((0 : Int) < i)) = true → CellOk (On w14) (hdB v) (hdO v + (i - 1).toNat * 1) (.int .i64 (l.getD (i - 1).toNat 0))) ∧ (((decide ((l.getD i.toNat 0) < 0)) || (decide (n ≤ (l.getD i.toNat 0)))) = false → (decide ((0 : Int) < i)) = true → True) ∧ (((decide ((l.getD i.toNat 0) < 0)) || (decide (n ≤ (l.getD i.toNat 0)))) = false → True) ∧ TT ∧ True) hA H ⟨tv, tv, tv, fun _ => tv, fun _ => tv, fun _ => tv, tv, tv, fun _ => tv, fun _ => tv, fun _ => tv, fun _ _ => tv, fun _ _ => tv, fun _ _ => tv, fun hg0 hg1 => by replace hg0 := (⟨of_decide_eq_false ((oF hg0).1), of_decide_eq_false ((oF hg0).2)⟩ : _ ∧ _); replace hg1 := of_decide_eq_true hg1; exact ⟨by omega, by omega⟩, fun hg0 hg1 => by replace hg0 := (⟨of_decide_eq_false ((oF hg0).1), of_decide_eq_false ((oF hg0).2)⟩ : _ ∧ _); replace hg1 := of_decide_eq_true hg1; exact ⟨by kernel_rfl, by exact idx_ok (H.arg hl) (by omega) (by omega)⟩, fun hg0 hg1 => by replace hg0 := (⟨of_decide_eq_false ((oF hg0).1), of_decide_eq_false ((oF hg0).2)⟩ : _ ∧ _); replace hg1 := of_decide_eq_true hg1; exact by exact cell_flat (i := i - 1) (H.arg hl) (by omega) (by omega) 0 0, fun _ _ => tv, fun _ => tv, tv, tv⟩ fun a w16 hA H hG => ?_
   refine hK15 _ _ ?_
   refine go_cond hA (.tmp 33) (((decide ((l.getD i.toNat 0) < 0)) || (decide (n ≤ (l.getD i.toNat 0)))) || ((decide ((0 : Int) < i)) && (decide ((l.getD i.toNat 0) ≤ (l.getD (i - 1).toNat 0))))) (fun hb17 => ?_) (fun hb17 => ?_)
   · have hhb17 := (oT hb17).imp (fun h => (oT h).imp (fun h => of_decide_eq_true h) (fun h => of_decide_eq_true h)) (fun h => (⟨of_decide_eq_true ((aT h).1), of_decide_eq_true ((aT h).2)⟩ : _ ∧ _))
     refine go_seq fun K18 hK18 => ?_
     refine q_reg [] [(4, .bool false)] (TT ∧ True) hA H ⟨tv, tv⟩ fun a w19 hA H hG => ?_
     refine hK18 _ _ ?_
     refine go_ret_ ?_
     refine ret_one 4 (.bool false) hA ?_
     exact ans_b' ((decide_eq_false (fun q => by have := q i.toNat (by omega); have z := hhb17; rw [show (i - 1).toNat = i.toNat - 1 by omega] at z; omega)).symm) H.below
   have hhb17 := (⟨(⟨of_decide_eq_false ((oF ((oF hb17).1)).1), of_decide_eq_false ((oF ((oF hb17).1)).2)⟩ : _ ∧ _), (aF ((oF hb17).2)).imp (fun h => of_decide_eq_false h) (fun h => of_decide_eq_false h)⟩ : _ ∧ _)
   refine go_skip ?_
   refine hK12 _ _ ?_
   refine q_reg [] [(0, v), (1, iv n), (7, v), (8, iv (l.length : Int)), (9, iv (i + 1))] ((InR .i64 (i + 1)) ∧ TT ∧ True) hA H ⟨⟨by omega, by omega⟩, tv, tv⟩ fun a w20 hA H hG => ?_
   refine ⟨(i + 1), ⟨env_sub _ hA, ⟨_, H⟩, ?_⟩, ?_⟩
   · (try dsimp only); exact ⟨by omega, fun j hj => if e : (j : Int) = i then (by have q := hhb17; rw [show j = i.toNat by omega]; rw [show (i - 1).toNat = i.toNat - 1 by omega] at q; omega) else hok j (by omega)⟩
   (try dsimp only); omega
 have hhb11 := of_decide_eq_false hb11
 refine go_exit 0 ?_
 refine hK3 _ _ ?_
 refine go_seq fun K21 hK21 => ?_
 refine q_reg [] [(4, .bool true)] (TT ∧ True) hA H ⟨tv, tv⟩ fun a w22 hA H hG => ?_
 refine hK21 _ _ ?_
 refine go_ret_ ?_
 refine ret_one 4 (.bool true) hA ?_
 exact ans_b' ((decide_eq_true (fun j hj => hok j (by omega))).symm) H.below
theorem isNaN_any (x : Int) (w : World) :
 Calls Try.prog 101 [.int .i64 x].toArray w (Ans (.bool false) w) := by
 refine enter Try.f101 6 Try.func101 fun a hA => ?_
 replace hA := env_sub [(0, iv x)] hA
 have H := Fr.start (org w)
 refine go_seq fun K1 hK1 => ?_
 refine q_reg [] [(0, iv x)] (TT ∧ True) hA H ⟨tv, tv⟩ fun a w2 hA H hG => ?_
 refine hK1 _ _ ?_
 refine go_seq fun K3 hK3 => ?_
 refine q_reg [] [(2, .bool (!decide (x = x)))] (TT ∧ TT ∧ TT ∧ TT ∧ True) hA H ⟨tv, tv, tv, tv, tv⟩ fun a w4 hA H hG => ?_
 refine hK3 _ _ ?_
 refine go_ret_ ?_
 refine ret_one 2 (.bool (!decide (x = x))) hA ?_
 exact ans_b' (by simp) H.below
theorem cmpNaN_any (x : Int) (w : World) :
 Calls Try.prog 127 [.int .i64 x].toArray w (Ans (.bool false) w) := by
 refine enter Try.f127 6 Try.func127 fun a hA => ?_
 replace hA := env_sub [(0, iv x)] hA
 have H := Fr.start (org w)
 refine go_seq fun K1 hK1 => ?_
 refine q_reg [] [(0, iv x)] (TT ∧ True) hA H ⟨tv, tv⟩ fun a w2 hA H hG => ?_
 refine hK1 _ _ ?_
 refine go_seq fun K3 hK3 => ?_
 refine q_reg [] [(2, .bool (!decide (x = x)))] (TT ∧ TT ∧ TT ∧ TT ∧ True) hA H ⟨tv, tv, tv, tv, tv⟩ fun a w4 hA H hG => ?_
 refine hK3 _ _ ?_
 refine go_ret_ ?_
 refine ret_one 2 (.bool (!decide (x = x))) hA ?_
 exact ans_b' (by simp) H.below
theorem less_any (x y : Int) (w : World) :
 Calls Try.prog 100 [.int .i64 x, .int .i64 y].toArray w (Ans (.bool (decide (x < y))) w) := by
 refine enter Try.f100 17 Try.func100 fun a hA => ?_
 replace hA := env_sub [(0, iv x), (1, iv y)] hA
 have H := Fr.start (org w)
 refine go_seq fun K1 hK1 => ?_
 refine q_reg [] [(0, iv x), (1, iv y)] (TT ∧ True) hA H ⟨tv, tv⟩ fun a w2 hA H hG => ?_
 refine hK1 _ _ ?_
 refine go_seq fun K3 hK3 => ?_
 refine q_reg [(6, .bool false), (9, .bool false)] [(4, .bool ((false && true) || (decide (x < y))))] (TT ∧ (Callable Try.prog 127 ∧ CallOk Try.prog (On w2) 127 [.int .i64 x].toArray (.bool false)) ∧ TT ∧ ((false) = true → True) ∧ ((false) = true → Callable Try.prog 127 ∧ CallOk Try.prog (On w2) 127 [.int .i64 y].toArray (.bool false)) ∧ ((false) = true → True) ∧ TT ∧ TT ∧ ((false && true) = false → True) ∧ ((false && true) = false → True) ∧ ((false && true) = false → True) ∧ TT ∧ TT ∧ True) hA H ⟨tv, ⟨callable_of, callOk_of fun w hw => by exact cmpNaN_any x w⟩, tv, fun _ => tv, fun _ => ⟨callable_of, callOk_of fun w hw => by exact cmpNaN_any y w⟩, fun _ => tv, tv, tv, fun _ => tv, fun _ => tv, fun _ => tv, tv, tv, tv⟩ fun a w4 hA H hG => ?_
 refine hK3 _ _ ?_
 refine go_ret_ ?_
 refine ret_one 4 (.bool ((false && true) || (decide (x < y)))) hA ?_
 exact ans_b' (by simp) H.below
theorem bs_any (v : Value) (l : List Int) (x : Int) (w : World) (hl : Rd (· < w.heap.size) w v l) (hs : l.length ≤ 1000000000000) :
 Calls Try.prog 77 [v, .int .i64 x].toArray w (Ans (.tuple #[.int .i64 (bsI l x), .bool (hasB l x)]) w) := by
 have hlen := rd_len hl
 refine enter Try.f77 54 Try.func77 fun a hA => ?_
 replace hA := env_sub [(0, v), (1, iv x)] hA
 have H := Fr.start (org w)
 refine go_seq fun K1 hK1 => ?_
 refine q_reg [] [(0, v), (1, iv x)] (TT ∧ TT ∧ True) hA H ⟨tv, tv, tv⟩ fun a w2 hA H hG => ?_
 refine hK1 _ _ ?_
 refine go_seq fun K3 hK3 => ?_
 refine q_reg [(11, iv (l.length : Int))] [(0, v), (1, iv x), (6, iv (l.length : Int))] (TT ∧ (LenOk v (l.length : Int)) ∧ TT ∧ True) hA H ⟨tv, by exact len_ok (H.arg hl), tv, tv⟩ fun a w4 hA H hG => ?_
 refine hK3 _ _ ?_
 refine go_seq fun K5 hK5 => ?_
 refine q_reg [] [(0, v), (1, iv x), (6, iv (l.length : Int)), (7, iv 0), (8, iv (l.length : Int))] (TT ∧ TT ∧ TT ∧ True) hA H ⟨tv, tv, tv, tv⟩ fun a w6 hA H hG => ?_
 refine hK5 _ _ ?_
 refine go_seq fun K7 hK7 => ?_
 refine go_block 0 ?_
 refine go_loop_ (Int × Int) (fun x_ a W => (fun (p : Int) (q : Int) => EnvOk 54 a (keepEnv [(0, v), (1, iv x), (6, iv (l.length : Int)), (7, iv p), (8, iv q)]) ∧ (∃ S, Fr (org w) W S []) ∧ 0 ≤ p ∧ p ≤ q ∧ q ≤ (l.length : Int) ∧ bsW l x p q = bsI l x) x_.1 x_.2) (fun x_ => (fun (p : Int) (q : Int) => (q - p).toNat) x_.1 x_.2) (0, (l.length : Int)) ?_ (fun x_ a w9 hI => ?_)
 · (try dsimp only); exact ⟨env_sub _ hA, ⟨_, H⟩, by omega, by omega, by omega, bsI_W l x⟩
 obtain ⟨p, q⟩ := x_
 obtain ⟨hA, ⟨S, H⟩, h1, h2, h3, hb⟩ := hI
 try dsimp only at h1 h2 h3 hb
 replace H : Fr _ _ _ [] := H
 refine go_seq fun K10 hK10 => ?_
 refine go_seq fun K11 hK11 => ?_
 refine q_reg [] [(0, v), (1, iv x), (6, iv (l.length : Int)), (7, iv p), (8, iv q), (15, .bool (decide (p < q)))] (TT ∧ TT ∧ TT ∧ True) hA H ⟨tv, tv, tv, tv⟩ fun a w12 hA H hG => ?_
 refine hK11 _ _ ?_
 refine go_cond hA (.tmp 15) (decide (p < q)) (fun hb13 => ?_) (fun hb13 => ?_)
 · have hhb13 := of_decide_eq_true hb13
   refine go_skip ?_
   refine hK10 _ _ ?_
   refine go_block 1 ?_
   refine go_seq fun K14 hK14 => ?_
   refine q_reg [(20, .int .u64 ((p + q) / 2))] [(0, v), (1, iv x), (6, iv (l.length : Int)), (7, iv p), (8, iv q), (9, iv ((p + q) / 2))] (TT ∧ TT ∧ (InR .i64 (p + q)) ∧ (InR .u64 (p + q)) ∧ (0 ≤ (1 : Int) ∧ (p + q).fdiv (2 ^ (min (1 : Int).toNat (IntKind.bits .u64))) = (p + q) / 2) ∧ (InR .i64 ((p + q) / 2)) ∧ TT ∧ True) hA H ⟨tv, tv, ⟨by omega, by omega⟩, ⟨by omega, by omega⟩, shr_one (by decide), ⟨by omega, by omega⟩, tv, tv⟩ fun a w15 hA H hG => ?_
   refine hK14 _ _ ?_
   refine go_seq fun K16 hK16 => ?_
   refine q_reg [(25, iv (l.getD ((p + q) / 2).toNat 0)), (27, .bool (decide ((l.getD ((p + q) / 2).toNat 0) < x)))] [(0, v), (1, iv x), (6, iv (l.length : Int)), (7, iv p), (8, iv q), (9, iv ((p + q) / 2)), (27, .bool (decide ((l.getD ((p + q) / 2).toNat 0) < x)))] (TT ∧ TT ∧ ((Try.prog.info? 3).isSome = true ∧ IdxOk v ((p + q) / 2)) ∧ (CellOk (On w15) (hdB v) (hdO v + ((p + q) / 2).toNat * 1) (.int .i64 (l.getD ((p + q) / 2).toNat 0))) ∧ TT ∧ (Callable Try.prog 100 ∧ CallOk Try.prog (On w15) 100 [.int .i64 (l.getD ((p + q) / 2).toNat 0), .int .i64 x].toArray (.bool (decide ((l.getD ((p + q) / 2).toNat 0) < x)))) ∧ True) hA H ⟨tv, tv, ⟨by kernel_rfl, by exact idx_ok (H.arg hl) (by omega) (by omega)⟩, by exact cell_flat (i := (p + q) / 2) (H.arg hl) (by omega) (by omega) 0 0, tv, ⟨callable_of, callOk_of fun w hw => by exact less_any (l.getD ((p + q) / 2).toNat 0) x w⟩, tv⟩ fun a w17 hA H hG => ?_
   refine hK16 _ _ ?_
   refine go_cond hA (.tmp 27) (decide ((l.getD ((p + q) / 2).toNat 0) < x)) (fun hb18 => ?_) (fun hb18 => ?_)
   · have hhb18 := of_decide_eq_true hb18
     refine q_reg [] [(0, v), (1, iv x), (6, iv (l.length : Int)), (7, iv (((p + q) / 2) + 1)), (8, iv q)] (TT ∧ (InR .i64 (((p + q) / 2) + 1)) ∧ TT ∧ True) hA H ⟨tv, ⟨by omega, by omega⟩, tv, tv⟩ fun a w19 hA H hG => ?_
     refine ⟨(((p + q) / 2) + 1, q), ⟨env_sub _ hA, ⟨_, H⟩, ?_⟩, ?_⟩
     · (try dsimp only); exact ⟨by omega, by omega, by omega, by rw [bsW_T (by omega) hhb18] at hb; exact hb⟩
     (try dsimp only); omega
   have hhb18 := of_decide_eq_false hb18
   refine q_reg [] [(0, v), (1, iv x), (6, iv (l.length : Int)), (7, iv p), (8, iv ((p + q) / 2))] (TT ∧ TT ∧ True) hA H ⟨tv, tv, tv⟩ fun a w20 hA H hG => ?_
   refine ⟨(p, (p + q) / 2), ⟨env_sub _ hA, ⟨_, H⟩, ?_⟩, ?_⟩
   · (try dsimp only); exact ⟨by omega, by omega, by omega, by rw [bsW_F (by omega) hhb18] at hb; exact hb⟩
   (try dsimp only); omega
 have hhb13 := of_decide_eq_false hb13
 refine go_exit 0 ?_
 refine hK7 _ _ ?_
 refine go_seq fun K21 hK21 => ?_
 refine q_reg [(39, iv (l.getD p.toNat 0)), (46, iv (l.getD p.toNat 0)), (47, .bool false), (50, .bool false)] [(4, iv p), (5, .bool ((decide (p < (l.length : Int))) && ((decide ((l.getD p.toNat 0) = x)) || (false && false))))] (TT ∧ TT ∧ TT ∧ TT ∧ TT ∧ ((decide (p < (l.length : Int))) = true → True) ∧ ((decide (p < (l.length : Int))) = true → True) ∧ ((decide (p < (l.length : Int))) = true → (Try.prog.info? 3).isSome = true ∧ IdxOk v p) ∧ ((decide (p < (l.length : Int))) = true → CellOk (On w12) (hdB v) (hdO v + p.toNat * 1) (.int .i64 (l.getD p.toNat 0))) ∧ ((decide (p < (l.length : Int))) = true → True) ∧ ((decide (p < (l.length : Int))) = true → True) ∧ ((decide (p < (l.length : Int))) = true → True) ∧ ((decide (p < (l.length : Int))) = true → (decide ((l.getD p.toNat 0) = x)) = false → True) ∧ ((decide (p < (l.length : Int))) = true → (decide ((l.getD p.toNat 0) = x)) = false → True) ∧ ((decide (p < (l.length : Int))) = true → (decide ((l.getD p.toNat 0) = x)) = false → (Try.prog.info? 3).isSome = true ∧ IdxOk v p) ∧ ((decide (p < (l.length : Int))) = true → (decide ((l.getD p.toNat 0) = x)) = false → CellOk (On w12) (hdB v) (hdO v + p.toNat * 1) (.int .i64 (l.getD p.toNat 0))) ∧ ((decide (p < (l.length : Int))) = true → (decide ((l.getD p.toNat 0) = x)) = false → Callable Try.prog 101 ∧ CallOk Try.prog (On w12) 101 [.int .i64 (l.getD p.toNat 0)].toArray (.bool false)) ∧ ((decide (p < (l.length : Int))) = true → (decide ((l.getD p.toNat 0) = x)) = false → True) ∧ ((decide (p < (l.length : Int))) = true → (decide ((l.getD p.toNat 0) = x)) = false → (false) = true → True) ∧ ((decide (p < (l.length : Int))) = true → (decide ((l.getD p.toNat 0) = x)) = false → (false) = true → Callable Try.prog 101 ∧ CallOk Try.prog (On w12) 101 [.int .i64 x].toArray (.bool false)) ∧ ((decide (p < (l.length : Int))) = true → (decide ((l.getD p.toNat 0) = x)) = false → True) ∧ ((decide (p < (l.length : Int))) = true → True) ∧ TT ∧ TT ∧ TT ∧ True) hA H ⟨tv, tv, tv, tv, tv, fun _ => tv, fun _ => tv, fun hg0 => by replace hg0 := of_decide_eq_true hg0; exact ⟨by kernel_rfl, by exact idx_ok (H.arg hl) (by omega) (by omega)⟩, fun hg0 => by replace hg0 := of_decide_eq_true hg0; exact by exact cell_flat (i := p) (H.arg hl) (by omega) (by omega) 0 0, fun _ => tv, fun _ => tv, fun _ => tv, fun _ _ => tv, fun _ _ => tv, fun hg0 hg1 => by replace hg0 := of_decide_eq_true hg0; replace hg1 := of_decide_eq_false hg1; exact ⟨by kernel_rfl, by exact idx_ok (H.arg hl) (by omega) (by omega)⟩, fun hg0 hg1 => by replace hg0 := of_decide_eq_true hg0; replace hg1 := of_decide_eq_false hg1; exact by exact cell_flat (i := p) (H.arg hl) (by omega) (by omega) 0 0, fun _ _ => ⟨callable_of, callOk_of fun w hw => by exact isNaN_any (l.getD p.toNat 0) w⟩, fun _ _ => tv, fun _ _ _ => tv, fun _ _ _ => ⟨callable_of, callOk_of fun w hw => by exact isNaN_any x w⟩, fun _ _ => tv, fun _ => tv, tv, tv, tv, tv⟩ fun a w22 hA H hG => ?_
 refine hK21 _ _ ?_
 refine go_ret_ ?_
 refine ret_two 4 5 (.int .i64 p) (.bool ((decide (p < (l.length : Int))) && ((decide ((l.getD p.toNat 0) = x)) || (false && false)))) hA ?_
 rw [bsW_end (by omega)] at hb
 exact ans_ib (by rw [hb]; refine ⟨rfl, ?_⟩; unfold hasB; simp) H.below
theorem has_any (v : Value) (l : List Int) (x : Int) (w : World) (hl : Rd (· < w.heap.size) w v l) (hs : l.length ≤ 1000000000000) :
 Calls Try.prog 39 [v, .int .i64 x].toArray w (Ans (.bool (hasB l x)) w) := by
 refine enter Try.f39 14 Try.func39 fun a hA => ?_
 replace hA := env_sub [(0, v), (1, iv x)] hA
 have H := Fr.start (org w)
 refine go_seq fun K1 hK1 => ?_
 refine q_reg [] [(0, v), (1, iv x)] (TT ∧ True) hA H ⟨tv, tv⟩ fun a w2 hA H hG => ?_
 refine hK1 _ _ ?_
 refine go_seq fun K3 hK3 => ?_
 refine q_reg [(10, .tuple #[.int .i64 (bsI l x), .bool (hasB l x)])] [(6, .bool (hasB l x))] (TT ∧ TT ∧ (Callable Try.prog 77 ∧ CallOk Try.prog (On w2) 77 [v, .int .i64 x].toArray (.tuple #[.int .i64 (bsI l x), .bool (hasB l x)])) ∧ TT ∧ TT ∧ TT ∧ TT ∧ TT ∧ True) hA H ⟨tv, tv, ⟨callable_of, callOk_of fun w hw => by exact bs_any v l x w ((H.on hw).arg hl) (by omega)⟩, tv, tv, tv, tv, tv, tv⟩ fun a w4 hA H hG => ?_
 refine hK3 _ _ ?_
 refine go_seq fun K5 hK5 => ?_
 refine q_reg [] [(4, .bool (hasB l x))] (TT ∧ TT ∧ True) hA H ⟨tv, tv, tv⟩ fun a w6 hA H hG => ?_
 refine hK5 _ _ ?_
 refine go_ret_ ?_
 refine ret_one 4 (.bool (hasB l x)) hA ?_
 exact ans_b' rfl H.below
theorem rightPart_any (n : Int) (ve : Value) (E : List (Int × Int)) (vv vl : Value) (V L : List Int) (w : World) (hn : -9223372036854775808 ≤ n ∧ n ≤ 9223372036854775807) (hE : Rd (· < w.heap.size) w ve E) (hV : Rd (· < w.heap.size) w vv V) (hL : Rd (· < w.heap.size) w vl L) :
 Calls Try.prog 31 [.agg #[.int .i64 n, ve], .agg #[vv, vl]].toArray w (Ans (.int .i64 (partE n E V L)) w) := by
 refine enter Try.f31 58 Try.func31 fun a hA => ?_
 replace hA := env_sub [(0, .agg #[.int .i64 n, ve]), (1, .agg #[vv, vl])] hA
 have H := Fr.start (org w)
 refine go_seq fun K1 hK1 => ?_
 refine region_list ?_
 refine list_at 0 ?_; refine q_box 0 2 24 (.tmp 0) (.agg #[.int .i64 n, ve]) [.int .i64 n, ve] [(1, .agg #[vv, vl])] hA H fun b2 a w3 H hA hG hge_b2 => ?_
 clear hge_b2
 refine list_at 1 ?_; refine q_box 1 3 29 (.tmp 1) (.agg #[vv, vl]) [vv, vl] [(2, pv b2)] hA H fun b4 a w5 H hA hG hge_b4 => ?_
 clear hge_b4
 refine q_list 2 1 [] [(2, pv b2), (3, pv b4)] (TT ∧ True) hA H ⟨tv, tv⟩ fun a w6 hA H hG => ?_
 refine list_end ?_
 refine hK1 _ _ ?_
 refine go_seq fun K7 hK7 => ?_
 refine go_seq fun K8 hK8 => ?_
 refine q_reg [(8, .agg #[.int .i64 n, ve]), (9, iv (rightE n E))] [(2, pv b2), (3, pv b4), (5, iv (rightE n E))] (((Try.prog.info? 24).isSome = true ∧ RowOk (On w6) b2 (0) (Try.prog.cellsOf 24) #[.int .i64 n, ve]) ∧ (Callable Try.prog 20 ∧ CallOk Try.prog (On w6) 20 [.agg #[.int .i64 n, ve]].toArray (.int .i64 (rightE n E))) ∧ TT ∧ True) hA H ⟨⟨by kernel_rfl, by exact box_row H 1 rfl 0 2⟩, ⟨callable_of, callOk_of fun w hw => by exact right_any n ve E w (by omega) ((H.on hw).arg hE)⟩, tv, tv⟩ fun a w9 hA H hG => ?_
 refine hK8 _ _ ?_
 refine go_seq fun K10 hK10 => ?_
 refine q_reg [] [(2, pv b2), (3, pv b4), (5, iv (rightE n E)), (11, .bool (!decide (rightE n E = 0)))] (TT ∧ TT ∧ True) hA H ⟨tv, tv, tv⟩ fun a w11 hA H hG => ?_
 refine hK10 _ _ ?_
 refine go_cond hA (.tmp 11) (!decide (rightE n E = 0)) (fun hb12 => ?_) (fun hb12 => ?_)
 · have hhb12 := of_decide_eq_false (nT hb12)
   refine go_seq fun K13 hK13 => ?_
   refine q_reg [] [(4, iv (rightE n E))] (TT ∧ TT ∧ True) hA H ⟨tv, tv, tv⟩ fun a w14 hA H hG => ?_
   refine hK13 _ _ ?_
   refine go_ret_ ?_
   refine ret_one 4 (.int .i64 (rightE n E)) hA ?_
   exact ans_i' (by unfold partE; rw [if_pos hhb12]) H.below
 have hhb12 := of_decide_eq_true (nF hb12)
 refine go_skip ?_
 refine hK7 _ _ ?_
 refine go_seq fun K15 hK15 => ?_
 refine go_seq fun K16 hK16 => ?_
 refine q_reg [(14, vv), (16, iv n), (17, .bool (decide (risesP V n))), (21, vl), (23, ve), (24, iv (E.length : Int)), (25, .bool (decide (risesP L (E.length : Int))))] [(2, pv b2), (3, pv b4), (27, .bool ((!(decide (risesP V n))) || (!(decide (risesP L (E.length : Int))))))] ((0 < Try.prog.cellsOf 27) ∧ (CellOk (On w11) b4 (0 + 0) (vv)) ∧ (0 < Try.prog.cellsOf 3) ∧ (CellOk (On w11) b2 (0 + 0) (.int .i64 n)) ∧ (Callable Try.prog 73 ∧ CallOk Try.prog (On w11) 73 [vv, .int .i64 n].toArray (.bool (decide (risesP V n)))) ∧ TT ∧ TT ∧ ((!(decide (risesP V n))) = false → 0 < Try.prog.cellsOf 27) ∧ ((!(decide (risesP V n))) = false → CellOk (On w11) b4 (0 + 1) (vl)) ∧ ((!(decide (risesP V n))) = false → 0 < Try.prog.cellsOf 22) ∧ ((!(decide (risesP V n))) = false → CellOk (On w11) b2 (0 + 1) (ve)) ∧ ((!(decide (risesP V n))) = false → LenOk ve (E.length : Int)) ∧ ((!(decide (risesP V n))) = false → Callable Try.prog 73 ∧ CallOk Try.prog (On w11) 73 [vl, .int .i64 (E.length : Int)].toArray (.bool (decide (risesP L (E.length : Int))))) ∧ ((!(decide (risesP V n))) = false → True) ∧ TT ∧ True) hA H ⟨by decide +kernel, by exact box_cell H 0 rfl 0, by decide +kernel, by exact box_cell H 1 rfl 0, ⟨callable_of, callOk_of fun w hw => by exact rising_any vv V n w ((H.on hw).arg hV)⟩, tv, tv, fun _ => by decide +kernel, fun _ => by exact box_cell H 0 rfl 1, fun _ => by decide +kernel, fun _ => by exact box_cell H 1 rfl 1, fun _ => by exact len_ok (H.arg hE), fun _ => ⟨callable_of, callOk_of fun w hw => by exact rising_any vl L (E.length : Int) w ((H.on hw).arg hL)⟩, fun _ => tv, tv, tv⟩ fun a w17 hA H hG => ?_
 refine hK16 _ _ ?_
 refine go_cond hA (.tmp 27) ((!(decide (risesP V n))) || (!(decide (risesP L (E.length : Int))))) (fun hb18 => ?_) (fun hb18 => ?_)
 · have hhb18 := (oT hb18).imp (fun h => of_decide_eq_false (nT h)) (fun h => of_decide_eq_false (nT h))
   refine go_seq fun K19 hK19 => ?_
   refine q_reg [] [(4, iv 4)] (TT ∧ True) hA H ⟨tv, tv⟩ fun a w20 hA H hG => ?_
   refine hK19 _ _ ?_
   refine go_ret_ ?_
   refine ret_one 4 (.int .i64 4) hA ?_
   exact ans_i' (by unfold partE; rw [if_neg (by omega), if_pos hhb18]) H.below
 have hhb18 := (⟨of_decide_eq_true (nF ((oF hb18).1)), of_decide_eq_true (nF ((oF hb18).2))⟩ : _ ∧ _)
 refine go_skip ?_
 refine hK15 _ _ ?_
 refine go_seq fun K21 hK21 => ?_
 refine go_seq fun K22 hK22 => ?_
 have hr0 := rightE_0 (n := n) (E := E) (by omega)
 obtain ⟨hr1, hr2⟩ := hhb18
 have hv9 := rises_len hr1 (by omega)
 have hl9 := rises_len hr2 (by omega)
 refine q_reg [(29, vl), (30, iv (L.length : Int))] [(2, pv b2), (3, pv b4), (29, vl), (30, iv (L.length : Int)), (31, iv 0)] ((0 < Try.prog.cellsOf 27) ∧ (CellOk (On w17) b4 (0 + 1) (vl)) ∧ (LenOk vl (L.length : Int)) ∧ TT ∧ True) hA H ⟨by decide +kernel, by exact box_cell H 0 rfl 1, by exact len_ok (H.arg hL), tv, tv⟩ fun a w23 hA H hG => ?_
 refine hK22 _ _ ?_
 refine go_block 0 ?_
 refine go_loop_ (Int) (fun x_ a W => (fun (i : Int) => EnvOk 58 a (keepEnv [(2, pv b2), (3, pv b4), (29, vl), (30, iv (L.length : Int)), (31, iv i)]) ∧ (∃ S, Fr (org w) W S [.box b4 29 [vv, vl], .box b2 24 [.int .i64 n, ve]]) ∧ 0 ≤ i ∧ ∀ j : Nat, (j : Int) < i → hasB V (E.getD (L.getD j 0).toNat (0, 0)).1 = true ∧ hasB V (E.getD (L.getD j 0).toNat (0, 0)).2 = true) x_) (fun x_ => (fun (i : Int) => ((L.length : Int) - i).toNat) x_) (0) ?_ (fun i a w25 hI => ?_)
 · (try dsimp only); exact ⟨env_sub _ hA, ⟨_, H⟩, by omega, fun j hj => by omega⟩
 obtain ⟨hA, ⟨S, H⟩, h0, hok⟩ := hI
 try dsimp only at h0 hok
 refine go_seq fun K26 hK26 => ?_
 refine q_reg [] [(2, pv b2), (3, pv b4), (29, vl), (30, iv (L.length : Int)), (31, iv i), (32, .bool (decide (i < (L.length : Int))))] (TT ∧ True) hA H ⟨tv, tv⟩ fun a w27 hA H hG => ?_
 refine hK26 _ _ ?_
 refine go_seq fun K28 hK28 => ?_
 refine go_cond hA (.tmp 32) (decide (i < (L.length : Int))) (fun hb29 => ?_) (fun hb29 => ?_)
 · have hhb29 := of_decide_eq_true hb29
   refine go_skip ?_
   refine hK28 _ _ ?_
   refine go_seq fun K30 hK30 => ?_
   refine go_block 1 ?_
   refine go_seq fun K31 hK31 => ?_
   refine q_reg [(34, iv (L.getD i.toNat 0))] [(2, pv b2), (3, pv b4), (7, iv (L.getD i.toNat 0)), (29, vl), (30, iv (L.length : Int)), (31, iv i)] (((Try.prog.info? 3).isSome = true ∧ IdxOk vl i) ∧ (CellOk (On w27) (hdB vl) (hdO vl + i.toNat * 1) (.int .i64 (L.getD i.toNat 0))) ∧ TT ∧ True) hA H ⟨⟨by kernel_rfl, by exact idx_ok (H.arg hL) (by omega) (by omega)⟩, by exact cell_flat (i := i) (H.arg hL) (by omega) (by omega) 0 0, tv, tv⟩ fun a w32 hA H hG => ?_
   refine hK31 _ _ ?_
   refine go_seq fun K33 hK33 => ?_
   have hx := hr2 i.toNat (by omega)
   refine q_draw [(36, vv), (38, ve), (42, iv ((E.getD (L.getD i.toNat 0).toNat (0, 0)).1)), (43, .bool (hasB V ((E.getD (L.getD i.toNat 0).toNat (0, 0)).1))), (47, vv), (49, ve), (53, iv ((E.getD (L.getD i.toNat 0).toNat (0, 0)).2)), (54, .bool (hasB V ((E.getD (L.getD i.toNat 0).toNat (0, 0)).2)))] [(2, pv b2), (3, pv b4), (29, vl), (30, iv (L.length : Int)), (31, iv i), (56, .bool ((!(hasB V ((E.getD (L.getD i.toNat 0).toNat (0, 0)).1))) || (!(hasB V ((E.getD (L.getD i.toNat 0).toNat (0, 0)).2)))))] ((0 < Try.prog.cellsOf 27) ∧ (CellOk (On w32) b4 (0 + 0) (vv)) ∧ (0 < Try.prog.cellsOf 22) ∧ (CellOk (On w32) b2 (0 + 1) (ve)) ∧ TT ∧ ((Try.prog.info? 99).isSome = true ∧ IdxOk ve (L.getD i.toNat 0)) ∧ (0 < Try.prog.cellsOf 3) ∧ (CellOk (On w32) (hdB ve) (hdO ve + (L.getD i.toNat 0).toNat * 2 + 0) (.int .i64 ((E.getD (L.getD i.toNat 0).toNat (0, 0)).1))) ∧ (Callable Try.prog 39 ∧ CallOk Try.prog (On w32) 39 [vv, .int .i64 ((E.getD (L.getD i.toNat 0).toNat (0, 0)).1)].toArray (.bool (hasB V ((E.getD (L.getD i.toNat 0).toNat (0, 0)).1)))) ∧ TT ∧ TT ∧ ((!(hasB V ((E.getD (L.getD i.toNat 0).toNat (0, 0)).1))) = false → 0 < Try.prog.cellsOf 27) ∧ ((!(hasB V ((E.getD (L.getD i.toNat 0).toNat (0, 0)).1))) = false → CellOk (On w32) b4 (0 + 0) (vv)) ∧ ((!(hasB V ((E.getD (L.getD i.toNat 0).toNat (0, 0)).1))) = false → 0 < Try.prog.cellsOf 22) ∧ ((!(hasB V ((E.getD (L.getD i.toNat 0).toNat (0, 0)).1))) = false → CellOk (On w32) b2 (0 + 1) (ve)) ∧ ((!(hasB V ((E.getD (L.getD i.toNat 0).toNat (0, 0)).1))) = false → True) ∧ ((!(hasB V ((E.getD (L.getD i.toNat 0).toNat (0, 0)).1))) = false → (Try.prog.info? 99).isSome = true ∧ IdxOk ve (L.getD i.toNat 0)) ∧ ((!(hasB V ((E.getD (L.getD i.toNat 0).toNat (0, 0)).1))) = false → 0 < Try.prog.cellsOf 3) ∧ ((!(hasB V ((E.getD (L.getD i.toNat 0).toNat (0, 0)).1))) = false → CellOk (On w32) (hdB ve) (hdO ve + (L.getD i.toNat 0).toNat * 2 + 1) (.int .i64 ((E.getD (L.getD i.toNat 0).toNat (0, 0)).2))) ∧ ((!(hasB V ((E.getD (L.getD i.toNat 0).toNat (0, 0)).1))) = false → Callable Try.prog 39 ∧ CallOk Try.prog (On w32) 39 [vv, .int .i64 ((E.getD (L.getD i.toNat 0).toNat (0, 0)).2)].toArray (.bool (hasB V ((E.getD (L.getD i.toNat 0).toNat (0, 0)).2)))) ∧ ((!(hasB V ((E.getD (L.getD i.toNat 0).toNat (0, 0)).1))) = false → True) ∧ TT ∧ True) hA H ⟨by decide +kernel, by exact box_cell H 0 rfl 0, by decide +kernel, by exact box_cell H 1 rfl 1, tv, ⟨by kernel_rfl, by exact idx_ok (H.arg hE) (by omega) (by omega)⟩, by decide +kernel, by exact cell_flat (i := (L.getD i.toNat 0)) (H.arg hE) (by omega) (by omega) (0, 0) 0, ⟨callable_of, callOk_of fun w hw => by exact has_any vv V ((E.getD (L.getD i.toNat 0).toNat (0, 0)).1) w ((H.on hw).arg hV) (by omega)⟩, tv, tv, fun _ => by decide +kernel, fun _ => by exact box_cell H 0 rfl 0, fun _ => by decide +kernel, fun _ => by exact box_cell H 1 rfl 1, fun _ => tv, fun hg0 => by replace hg0 := (nF hg0); exact ⟨by kernel_rfl, by exact idx_ok (H.arg hE) (by omega) (by omega)⟩, fun _ => by decide +kernel, fun hg0 => by replace hg0 := (nF hg0); exact by exact cell_flat (i := (L.getD i.toNat 0)) (H.arg hE) (by omega) (by omega) (0, 0) 1, fun hg0 => by replace hg0 := (nF hg0); exact ⟨callable_of, callOk_of fun w hw => by exact has_any vv V ((E.getD (L.getD i.toNat 0).toNat (0, 0)).2) w ((H.on hw).arg hV) (by omega)⟩, fun _ => tv, tv, tv⟩ fun a w34 hA H hG => ?_
   refine hK33 _ _ ?_
   refine go_cond hA (.tmp 56) ((!(hasB V ((E.getD (L.getD i.toNat 0).toNat (0, 0)).1))) || (!(hasB V ((E.getD (L.getD i.toNat 0).toNat (0, 0)).2)))) (fun hb35 => ?_) (fun hb35 => ?_)
   · have hhb35 := (oT hb35).imp (fun h => (nT h)) (fun h => (nT h))
     refine go_seq fun K36 hK36 => ?_
     refine q_reg [] [(4, iv 4)] (TT ∧ True) hA H ⟨tv, tv⟩ fun a w37 hA H hG => ?_
     refine hK36 _ _ ?_
     refine go_ret_ ?_
     refine ret_one 4 (.int .i64 4) hA ?_
     exact ans_i' (by unfold partE; rw [if_neg (by omega), if_neg (by rintro (q | q); exact q hr1; exact q hr2), if_neg (fun q : okPart E V L => by have z := q i.toNat (by omega); rcases hhb35 with y | y; rw [z.1] at y; cases y; rw [z.2] at y; cases y)]) H.below
   have hhb35 := (⟨(nF ((oF hb35).1)), (nF ((oF hb35).2))⟩ : _ ∧ _)
   refine go_skip ?_
   refine hK30 _ _ ?_
   refine q_reg [] [(2, pv b2), (3, pv b4), (29, vl), (30, iv (L.length : Int)), (31, iv (i + 1))] ((InR .i64 (i + 1)) ∧ TT ∧ True) hA H ⟨⟨by omega, by omega⟩, tv, tv⟩ fun a w38 hA H hG => ?_
   refine ⟨(i + 1), ⟨env_sub _ hA, ⟨_, H⟩, ?_⟩, ?_⟩
   · (try dsimp only); exact ⟨by omega, fun j hj => if e : (j : Int) = i then (by rw [show j = i.toNat by omega]; exact hhb35) else hok j (by omega)⟩
   (try dsimp only); omega
 have hhb29 := of_decide_eq_false hb29
 refine go_exit 0 ?_
 refine hK21 _ _ ?_
 refine go_seq fun K39 hK39 => ?_
 refine q_reg [] [(4, iv 0)] (TT ∧ True) hA H ⟨tv, tv⟩ fun a w40 hA H hG => ?_
 refine hK39 _ _ ?_
 refine go_ret_ ?_
 refine ret_one 4 (.int .i64 0) hA ?_
 exact ans_i' (by unfold partE; rw [if_neg (by omega), if_neg (by rintro (q | q); exact q hr1; exact q hr2), if_pos (show okPart E V L from fun j hj => hok j (by omega))]) H.below
theorem equal_any (v u : Value) (l m : List Int) (w : World) (hl : Rd (· < w.heap.size) w v l) (hm : Rd (· < w.heap.size) w u m) :
 Calls Try.prog 76 [v, u].toArray w (Ans (.bool (decide (l = m))) w) := by
 have hlen := rd_len hl
 refine enter Try.f76 26 Try.func76 fun a hA => ?_
 replace hA := env_sub [(0, v), (1, u)] hA
 have H := Fr.start (org w)
 refine go_seq fun K1 hK1 => ?_
 refine q_reg [] [(0, v), (1, u)] (TT ∧ True) hA H ⟨tv, tv⟩ fun a w2 hA H hG => ?_
 refine hK1 _ _ ?_
 refine go_seq fun K3 hK3 => ?_
 refine go_seq fun K4 hK4 => ?_
 refine q_reg [(7, iv (l.length : Int)), (9, iv (m.length : Int))] [(0, v), (1, u), (10, .bool (!decide ((l.length : Int) = (m.length : Int))))] (TT ∧ (LenOk v (l.length : Int)) ∧ TT ∧ (LenOk u (m.length : Int)) ∧ TT ∧ True) hA H ⟨tv, by exact len_ok (H.arg hl), tv, by exact len_ok (H.arg hm), tv, tv⟩ fun a w5 hA H hG => ?_
 refine hK4 _ _ ?_
 refine go_cond hA (.tmp 10) (!decide ((l.length : Int) = (m.length : Int))) (fun hb6 => ?_) (fun hb6 => ?_)
 · have hhb6 := of_decide_eq_false (nT hb6)
   refine go_seq fun K7 hK7 => ?_
   refine q_reg [] [(4, .bool false)] (TT ∧ True) hA H ⟨tv, tv⟩ fun a w8 hA H hG => ?_
   refine hK7 _ _ ?_
   refine go_ret_ ?_
   refine ret_one 4 (.bool false) hA ?_
   exact ans_b' ((decide_eq_false (fun q => hhb6 (by rw [q]))).symm) H.below
 have hhb6 := of_decide_eq_true (nF hb6)
 refine go_skip ?_
 refine hK3 _ _ ?_
 refine go_seq fun K9 hK9 => ?_
 refine go_seq fun K10 hK10 => ?_
 refine q_reg [(12, iv (l.length : Int))] [(0, v), (1, u), (12, iv (l.length : Int)), (13, iv 0)] (TT ∧ (LenOk v (l.length : Int)) ∧ TT ∧ True) hA H ⟨tv, by exact len_ok (H.arg hl), tv, tv⟩ fun a w11 hA H hG => ?_
 refine hK10 _ _ ?_
 refine go_block 0 ?_
 refine go_loop_ (Int) (fun x_ a W => (fun (i : Int) => EnvOk 26 a (keepEnv [(0, v), (1, u), (12, iv (l.length : Int)), (13, iv i)]) ∧ (∃ S, Fr (org w) W S []) ∧ 0 ≤ i ∧ ∀ j : Nat, (j : Int) < i → l.getD j 0 = m.getD j 0) x_) (fun x_ => (fun (i : Int) => ((l.length : Int) - i).toNat) x_) (0) ?_ (fun i a w13 hI => ?_)
 · (try dsimp only); exact ⟨env_sub _ hA, ⟨_, H⟩, by omega, fun j hj => by omega⟩
 obtain ⟨hA, ⟨S, H⟩, h0, hok⟩ := hI
 try dsimp only at h0 hok
 refine go_seq fun K14 hK14 => ?_
 refine q_reg [] [(0, v), (1, u), (12, iv (l.length : Int)), (13, iv i), (14, .bool (decide (i < (l.length : Int))))] (TT ∧ True) hA H ⟨tv, tv⟩ fun a w15 hA H hG => ?_
 refine hK14 _ _ ?_
 refine go_seq fun K16 hK16 => ?_
 refine go_cond hA (.tmp 14) (decide (i < (l.length : Int))) (fun hb17 => ?_) (fun hb17 => ?_)
 · have hhb17 := of_decide_eq_true hb17
   refine go_skip ?_
   refine hK16 _ _ ?_
   refine go_seq fun K18 hK18 => ?_
   refine go_block 1 ?_
   refine go_seq fun K19 hK19 => ?_
   refine q_reg [] [(0, v), (1, u), (5, iv i), (12, iv (l.length : Int)), (13, iv i)] (TT ∧ TT ∧ True) hA H ⟨tv, tv, tv⟩ fun a w20 hA H hG => ?_
   refine hK19 _ _ ?_
   refine go_seq fun K21 hK21 => ?_
   refine q_draw [(19, iv (l.getD i.toNat 0)), (23, iv (m.getD i.toNat 0))] [(0, v), (1, u), (12, iv (l.length : Int)), (13, iv i), (24, .bool (!decide ((l.getD i.toNat 0) = (m.getD i.toNat 0))))] (TT ∧ TT ∧ ((Try.prog.info? 3).isSome = true ∧ IdxOk v i) ∧ (CellOk (On w20) (hdB v) (hdO v + i.toNat * 1) (.int .i64 (l.getD i.toNat 0))) ∧ TT ∧ TT ∧ ((Try.prog.info? 3).isSome = true ∧ IdxOk u i) ∧ (CellOk (On w20) (hdB u) (hdO u + i.toNat * 1) (.int .i64 (m.getD i.toNat 0))) ∧ TT ∧ True) hA H ⟨tv, tv, ⟨by kernel_rfl, by exact idx_ok (H.arg hl) (by omega) (by omega)⟩, by exact cell_flat (i := i) (H.arg hl) (by omega) (by omega) 0 0, tv, tv, ⟨by kernel_rfl, by exact idx_ok (H.arg hm) (by omega) (by omega)⟩, by exact cell_flat (i := i) (H.arg hm) (by omega) (by omega) 0 0, tv, tv⟩ fun a w22 hA H hG => ?_
   refine hK21 _ _ ?_
   refine go_cond hA (.tmp 24) (!decide ((l.getD i.toNat 0) = (m.getD i.toNat 0))) (fun hb23 => ?_) (fun hb23 => ?_)
   · have hhb23 := of_decide_eq_false (nT hb23)
     refine go_seq fun K24 hK24 => ?_
     refine q_reg [] [(4, .bool false)] (TT ∧ True) hA H ⟨tv, tv⟩ fun a w25 hA H hG => ?_
     refine hK24 _ _ ?_
     refine go_ret_ ?_
     refine ret_one 4 (.bool false) hA ?_
     exact ans_b' ((decide_eq_false (fun q => hhb23 (by rw [q]))).symm) H.below
   have hhb23 := of_decide_eq_true (nF hb23)
   refine go_skip ?_
   refine hK18 _ _ ?_
   refine q_reg [] [(0, v), (1, u), (12, iv (l.length : Int)), (13, iv (i + 1))] ((InR .i64 (i + 1)) ∧ TT ∧ True) hA H ⟨⟨by omega, by omega⟩, tv, tv⟩ fun a w26 hA H hG => ?_
   refine ⟨(i + 1), ⟨env_sub _ hA, ⟨_, H⟩, ?_⟩, ?_⟩
   · (try dsimp only); exact ⟨by omega, fun j hj => if e : (j : Int) = i then (by rw [show j = i.toNat by omega]; exact hhb23) else hok j (by omega)⟩
   (try dsimp only); omega
 have hhb17 := of_decide_eq_false hb17
 refine go_exit 0 ?_
 refine hK9 _ _ ?_
 refine go_seq fun K27 hK27 => ?_
 refine q_reg [] [(4, .bool true)] (TT ∧ True) hA H ⟨tv, tv⟩ fun a w28 hA H hG => ?_
 refine hK27 _ _ ?_
 refine go_ret_ ?_
 refine ret_one 4 (.bool true) hA ?_
 exact ans_b' ((decide_eq_true (eq_of_getD hhb6 (fun j hj => hok j (by omega)))).symm) H.below
theorem requal_any (v u : Value) (l m : List Int) (w : World) (hl : Rd (· < w.heap.size) w v l) (hm : Rd (· < w.heap.size) w u m) :
 Calls Try.prog 36 [v, u].toArray w (Ans (.bool (decide (l = m))) w) := by
 have hlen := rd_len hl
 refine enter Try.f36 26 Try.func36 fun a hA => ?_
 replace hA := env_sub [(0, v), (1, u)] hA
 have H := Fr.start (org w)
 refine go_seq fun K1 hK1 => ?_
 refine q_reg [] [(0, v), (1, u)] (TT ∧ True) hA H ⟨tv, tv⟩ fun a w2 hA H hG => ?_
 refine hK1 _ _ ?_
 refine go_seq fun K3 hK3 => ?_
 refine go_seq fun K4 hK4 => ?_
 refine q_reg [(7, iv (l.length : Int)), (9, iv (m.length : Int))] [(0, v), (1, u), (10, .bool (!decide ((l.length : Int) = (m.length : Int))))] (TT ∧ (LenOk v (l.length : Int)) ∧ TT ∧ (LenOk u (m.length : Int)) ∧ TT ∧ True) hA H ⟨tv, by exact len_ok (H.arg hl), tv, by exact len_ok (H.arg hm), tv, tv⟩ fun a w5 hA H hG => ?_
 refine hK4 _ _ ?_
 refine go_cond hA (.tmp 10) (!decide ((l.length : Int) = (m.length : Int))) (fun hb6 => ?_) (fun hb6 => ?_)
 · have hhb6 := of_decide_eq_false (nT hb6)
   refine go_seq fun K7 hK7 => ?_
   refine q_reg [] [(4, .bool false)] (TT ∧ True) hA H ⟨tv, tv⟩ fun a w8 hA H hG => ?_
   refine hK7 _ _ ?_
   refine go_ret_ ?_
   refine ret_one 4 (.bool false) hA ?_
   exact ans_b' ((decide_eq_false (fun q => hhb6 (by rw [q]))).symm) H.below
 have hhb6 := of_decide_eq_true (nF hb6)
 refine go_skip ?_
 refine hK3 _ _ ?_
 refine go_seq fun K9 hK9 => ?_
 refine go_seq fun K10 hK10 => ?_
 refine q_reg [] [(0, v), (1, u), (5, iv 0)] (TT ∧ True) hA H ⟨tv, tv⟩ fun a w11 hA H hG => ?_
 refine hK10 _ _ ?_
 refine go_block 0 ?_
 refine go_loop_ (Int) (fun x_ a W => (fun (i : Int) => EnvOk 26 a (keepEnv [(0, v), (1, u), (5, iv i)]) ∧ (∃ S, Fr (org w) W S []) ∧ 0 ≤ i ∧ ∀ j : Nat, (j : Int) < i → l.getD j 0 = m.getD j 0) x_) (fun x_ => (fun (i : Int) => ((l.length : Int) - i).toNat) x_) (0) ?_ (fun i a w13 hI => ?_)
 · (try dsimp only); exact ⟨env_sub _ hA, ⟨_, H⟩, by omega, fun j hj => by omega⟩
 obtain ⟨hA, ⟨S, H⟩, h0, hok⟩ := hI
 try dsimp only at h0 hok
 refine go_seq fun K14 hK14 => ?_
 refine go_seq fun K15 hK15 => ?_
 refine q_reg [(13, iv (l.length : Int))] [(0, v), (1, u), (5, iv i), (14, .bool (decide (i < (l.length : Int))))] (TT ∧ TT ∧ (LenOk v (l.length : Int)) ∧ TT ∧ True) hA H ⟨tv, tv, by exact len_ok (H.arg hl), tv, tv⟩ fun a w16 hA H hG => ?_
 refine hK15 _ _ ?_
 refine go_cond hA (.tmp 14) (decide (i < (l.length : Int))) (fun hb17 => ?_) (fun hb17 => ?_)
 · have hhb17 := of_decide_eq_true hb17
   refine go_skip ?_
   refine hK14 _ _ ?_
   refine go_seq fun K18 hK18 => ?_
   refine go_block 1 ?_
   refine go_seq fun K19 hK19 => ?_
   refine q_draw [(20, iv (l.getD i.toNat 0)), (24, iv (m.getD i.toNat 0))] [(0, v), (1, u), (5, iv i), (25, .bool (!decide ((l.getD i.toNat 0) = (m.getD i.toNat 0))))] (TT ∧ TT ∧ ((Try.prog.info? 3).isSome = true ∧ IdxOk v i) ∧ (CellOk (On w16) (hdB v) (hdO v + i.toNat * 1) (.int .i64 (l.getD i.toNat 0))) ∧ TT ∧ TT ∧ ((Try.prog.info? 3).isSome = true ∧ IdxOk u i) ∧ (CellOk (On w16) (hdB u) (hdO u + i.toNat * 1) (.int .i64 (m.getD i.toNat 0))) ∧ TT ∧ True) hA H ⟨tv, tv, ⟨by kernel_rfl, by exact idx_ok (H.arg hl) (by omega) (by omega)⟩, by exact cell_flat (i := i) (H.arg hl) (by omega) (by omega) 0 0, tv, tv, ⟨by kernel_rfl, by exact idx_ok (H.arg hm) (by omega) (by omega)⟩, by exact cell_flat (i := i) (H.arg hm) (by omega) (by omega) 0 0, tv, tv⟩ fun a w20 hA H hG => ?_
   refine hK19 _ _ ?_
   refine go_cond hA (.tmp 25) (!decide ((l.getD i.toNat 0) = (m.getD i.toNat 0))) (fun hb21 => ?_) (fun hb21 => ?_)
   · have hhb21 := of_decide_eq_false (nT hb21)
     refine go_seq fun K22 hK22 => ?_
     refine q_reg [] [(4, .bool false)] (TT ∧ True) hA H ⟨tv, tv⟩ fun a w23 hA H hG => ?_
     refine hK22 _ _ ?_
     refine go_ret_ ?_
     refine ret_one 4 (.bool false) hA ?_
     exact ans_b' ((decide_eq_false (fun q => hhb21 (by rw [q]))).symm) H.below
   have hhb21 := of_decide_eq_true (nF hb21)
   refine go_skip ?_
   refine hK18 _ _ ?_
   refine q_reg [] [(0, v), (1, u), (5, iv (i + 1))] (TT ∧ (InR .i64 (i + 1)) ∧ TT ∧ True) hA H ⟨tv, ⟨by omega, by omega⟩, tv, tv⟩ fun a w24 hA H hG => ?_
   refine ⟨(i + 1), ⟨env_sub _ hA, ⟨_, H⟩, ?_⟩, ?_⟩
   · (try dsimp only); exact ⟨by omega, fun j hj => if e : (j : Int) = i then (by rw [show j = i.toNat by omega]; exact hhb21) else hok j (by omega)⟩
   (try dsimp only); omega
 have hhb17 := of_decide_eq_false hb17
 refine go_exit 0 ?_
 refine hK9 _ _ ?_
 refine go_seq fun K25 hK25 => ?_
 refine q_reg [] [(4, .bool true)] (TT ∧ True) hA H ⟨tv, tv⟩ fun a w26 hA H hG => ?_
 refine hK25 _ _ ?_
 refine go_ret_ ?_
 refine ret_one 4 (.bool true) hA ?_
 exact ans_b' ((decide_eq_true (eq_of_getD hhb6 (fun j hj => hok j (by omega)))).symm) H.below
theorem same_any (va ea vb eb : Value) (A B C D : List Int) (w : World) (gA : Rd (· < w.heap.size) w va A) (gB : Rd (· < w.heap.size) w ea B) (gC : Rd (· < w.heap.size) w vb C) (gD : Rd (· < w.heap.size) w eb D) :
 Calls Try.prog 28 [.agg #[va, ea], .agg #[vb, eb]].toArray w (Ans (.bool (decide (A = C) && decide (B = D))) w) := by
 refine enter Try.f28 17 Try.func28 fun a hA => ?_
 replace hA := env_sub [(0, .agg #[va, ea]), (1, .agg #[vb, eb])] hA
 have H := Fr.start (org w)
 refine go_seq fun K1 hK1 => ?_
 refine region_list ?_
 refine list_at 0 ?_; refine q_box 0 2 29 (.tmp 0) (.agg #[va, ea]) [va, ea] [(1, .agg #[vb, eb])] hA H fun b2 a w3 H hA hG hge_b2 => ?_
 clear hge_b2
 refine list_at 1 ?_; refine q_box 1 3 29 (.tmp 1) (.agg #[vb, eb]) [vb, eb] [(2, pv b2)] hA H fun b4 a w5 H hA hG hge_b4 => ?_
 clear hge_b4
 refine q_list 2 1 [] [(2, pv b2), (3, pv b4)] (TT ∧ True) hA H ⟨tv, tv⟩ fun a w6 hA H hG => ?_
 refine list_end ?_
 refine hK1 _ _ ?_
 refine go_seq fun K7 hK7 => ?_
 refine q_reg [(6, va), (8, vb), (9, .bool (decide (A = C))), (12, ea), (14, eb), (15, .bool (decide (B = D)))] [(4, .bool ((decide (A = C)) && (decide (B = D))))] ((0 < Try.prog.cellsOf 27) ∧ (CellOk (On w6) b2 (0 + 0) (va)) ∧ (0 < Try.prog.cellsOf 27) ∧ (CellOk (On w6) b4 (0 + 0) (vb)) ∧ (Callable Try.prog 76 ∧ CallOk Try.prog (On w6) 76 [va, vb].toArray (.bool (decide (A = C)))) ∧ TT ∧ ((decide (A = C)) = true → 0 < Try.prog.cellsOf 27) ∧ ((decide (A = C)) = true → CellOk (On w6) b2 (0 + 1) (ea)) ∧ ((decide (A = C)) = true → 0 < Try.prog.cellsOf 27) ∧ ((decide (A = C)) = true → CellOk (On w6) b4 (0 + 1) (eb)) ∧ ((decide (A = C)) = true → Callable Try.prog 76 ∧ CallOk Try.prog (On w6) 76 [ea, eb].toArray (.bool (decide (B = D)))) ∧ TT ∧ TT ∧ True) hA H ⟨by decide +kernel, by exact box_cell H 1 rfl 0, by decide +kernel, by exact box_cell H 0 rfl 0, ⟨callable_of, callOk_of fun w hw => by exact equal_any va vb A C w (((H.on hw).arg gA)) (((H.on hw).arg gC))⟩, tv, fun _ => by decide +kernel, fun _ => by exact box_cell H 1 rfl 1, fun _ => by decide +kernel, fun _ => by exact box_cell H 0 rfl 1, fun _ => ⟨callable_of, callOk_of fun w hw => by exact equal_any ea eb B D w (((H.on hw).arg gB)) (((H.on hw).arg gD))⟩, tv, tv, tv⟩ fun a w8 hA H hG => ?_
 refine hK7 _ _ ?_
 refine go_ret_ ?_
 refine ret_one 4 (.bool ((decide (A = C)) && (decide (B = D)))) hA ?_
 exact ans_b' rfl H.below
end Go.Proofs.Ytahonnlgkmimlaa
namespace Go.Proofs.Ytahonnlgkmimlaa
open Go.RowKit
end Go.Proofs.Ytahonnlgkmimlaa
namespace Go.Proofs.Ytahonnlgkmimlaa
open Go.RowKit
end Go.Proofs.Ytahonnlgkmimlaa
namespace Go.Proofs.Ytahonnlgkmimlaa
open Go.RowKit
theorem span_any (n : Int) (ve : Value) (E : List (Int × Int)) (vl : Value) (L : List Int) (o : Orig) (hn : -9223372036854775808 ≤ n ∧ n ≤ 9223372036854775807) (hE : Rd (· < o.w.heap.size) o.w ve E) (hL : Rd (· < o.w.heap.size) o.w vl L) :
 Calls Try.prog 26 [.agg #[.int .i64 n, ve], vl].toArray o.w (Giv o (fun S v w' => ∃ p, v = .tuple #[p, .int .i64 (spanE n E L).2] ∧ Rd S w' p (spanE n E L).1)) := by
 have hlenE := rd_len hE
 refine enter Try.f26 61 Try.func26 fun a hA => ?_
 replace hA := env_sub [(0, .agg #[.int .i64 n, ve]), (1, vl)] hA
 have H := Fr.start o
 refine go_seq fun K1 hK1 => ?_
 refine region_list ?_
 refine list_at 0 ?_; refine q_box 0 2 24 (.tmp 0) (.agg #[.int .i64 n, ve]) [.int .i64 n, ve] [(1, vl)] hA H fun b2 a w3 H hA hG hge_b2 => ?_
 clear hge_b2
 refine list_at 1 ?_; refine q_alloc 1 4 29 [(.slice none 0 0), (.slice none 0 0)] [(1, vl), (2, pv b2)] hA H fun b4 a w5 H hA hG hge_b4 => ?_
 clear hge_b4
 refine q_list 2 1 [] [(1, vl), (2, pv b2), (4, pv b4)] (TT ∧ True) hA H ⟨tv, tv⟩ fun a w6 hA H hG => ?_
 refine list_end ?_
 refine hK1 _ _ ?_
 refine go_seq fun K7 hK7 => ?_
 refine go_seq fun K8 hK8 => ?_
 refine q_reg [(10, .agg #[.int .i64 n, ve]), (11, iv (rightE n E))] [(1, vl), (2, pv b2), (4, pv b4), (6, iv (rightE n E))] (((Try.prog.info? 24).isSome = true ∧ RowOk (On w6) b2 (0) (Try.prog.cellsOf 24) #[.int .i64 n, ve]) ∧ (Callable Try.prog 20 ∧ CallOk Try.prog (On w6) 20 [.agg #[.int .i64 n, ve]].toArray (.int .i64 (rightE n E))) ∧ TT ∧ True) hA H ⟨⟨by kernel_rfl, by exact box_row H 1 rfl 0 2⟩, ⟨callable_of, callOk_of fun w hw => by exact right_any n ve E w (by omega) (((H.on hw).arg hE))⟩, tv, tv⟩ fun a w9 hA H hG => ?_
 refine hK8 _ _ ?_
 refine go_seq fun K10 hK10 => ?_
 refine q_reg [] [(1, vl), (2, pv b2), (4, pv b4), (6, iv (rightE n E)), (13, .bool (!decide (rightE n E = 0)))] (TT ∧ TT ∧ True) hA H ⟨tv, tv, tv⟩ fun a w11 hA H hG => ?_
 refine hK10 _ _ ?_
 refine go_cond hA (.tmp 13) (!decide (rightE n E = 0)) (fun hb12 => ?_) (fun hb12 => ?_)
 · have hhb12 := of_decide_eq_false (nT hb12)
   refine go_seq fun K13 hK13 => ?_
   refine region_list ?_
   refine q_list 0 2 [(14, .agg #[(.slice none 0 0), (.slice none 0 0)])] [(4, pv b4), (14, .agg #[(.slice none 0 0), (.slice none 0 0)]), (15, iv (rightE n E))] ((∀ w, (Instr.build 29 #[]).run Try.prog w = .ok (.agg #[(.slice none 0 0), (.slice none 0 0)]) w) ∧ TT ∧ True) hA H ⟨fun w => by kernel_rfl, tv, tv⟩ fun a w14 hA H hG => ?_
   refine list_at 2 ?_; refine q_store 2 29 (.tmp 4) (.tmp 14) 0 b4 (0) 29 [(.slice none 0 0), (.slice none 0 0)] [(.slice none 0 0), (.slice none 0 0)] [(.slice none 0 0), (.slice none 0 0)] (.agg #[(.slice none 0 0), (.slice none 0 0)]) [(4, pv b4), (15, iv (rightE n E))] hA H rfl rfl (Nat.le_of_ble_eq_true (by kernel_rfl)) rfl (fun v hv => by simp only [List.mem_cons, List.not_mem_nil, or_false] at hv; rcases hv with rfl | rfl; exact rfl; exact rfl) fun a w15 H hA hG => ?_
   replace H : Fr _ _ _ [.box b4 29 [(.slice none 0 0), (.slice none 0 0)], .box b2 24 [.int .i64 n, ve]] := H
   refine q_list 3 1 [] [(4, pv b4), (5, iv (rightE n E))] (TT ∧ True) hA H ⟨tv, tv⟩ fun a w16 hA H hG => ?_
   refine list_end ?_
   refine hK13 _ _ ?_
   refine go_ret_ ?_
   refine ret_cell2 4 5 29 0 b4 29 [(.slice none 0 0), (.slice none 0 0)] #[(.slice none 0 0), (.slice none 0 0)] (.int .i64 (rightE n E)) hA H rfl ?_ (ht := ⟨_, Try.underlying29⟩)
   have e1 : spanE n E L = (([], []), rightE n E) := by unfold spanE; rw [if_pos hhb12]
   rw [e1]; exact ⟨_, rfl, ⟨_, rfl, rd_two rd_nil rd_nil⟩, H.below⟩
 have hhb12 := of_decide_eq_true (nF hb12)
 refine go_skip ?_
 refine hK7 _ _ ?_
 refine go_seq fun K17 hK17 => ?_
 refine go_seq fun K18 hK18 => ?_
 refine q_reg [(18, ve), (19, iv (E.length : Int)), (20, .bool (decide (risesP L (E.length : Int))))] [(1, vl), (2, pv b2), (4, pv b4), (21, .bool (!(decide (risesP L (E.length : Int)))))] (TT ∧ (0 < Try.prog.cellsOf 22) ∧ (CellOk (On w11) b2 (0 + 1) (ve)) ∧ (LenOk ve (E.length : Int)) ∧ (Callable Try.prog 73 ∧ CallOk Try.prog (On w11) 73 [vl, .int .i64 (E.length : Int)].toArray (.bool (decide (risesP L (E.length : Int))))) ∧ TT ∧ True) hA H ⟨tv, by decide +kernel, by exact box_cell H 1 rfl 1, by exact len_ok (H.arg hE), ⟨callable_of, callOk_of fun w hw => by exact rising_any vl L (E.length : Int) w (((H.on hw).arg hL))⟩, tv, tv⟩ fun a w19 hA H hG => ?_
 refine hK18 _ _ ?_
 refine go_cond hA (.tmp 21) (!(decide (risesP L (E.length : Int)))) (fun hb20 => ?_) (fun hb20 => ?_)
 · have hhb20 := of_decide_eq_false (nT hb20)
   refine go_seq fun K21 hK21 => ?_
   refine region_list ?_
   refine q_list 0 1 [(22, .agg #[(.slice none 0 0), (.slice none 0 0)])] [(4, pv b4), (22, .agg #[(.slice none 0 0), (.slice none 0 0)])] ((∀ w, (Instr.build 29 #[]).run Try.prog w = .ok (.agg #[(.slice none 0 0), (.slice none 0 0)]) w) ∧ True) hA H ⟨fun w => by kernel_rfl, tv⟩ fun a w22 hA H hG => ?_
   refine list_at 1 ?_; refine q_store 1 29 (.tmp 4) (.tmp 22) 0 b4 (0) 29 [(.slice none 0 0), (.slice none 0 0)] [(.slice none 0 0), (.slice none 0 0)] [(.slice none 0 0), (.slice none 0 0)] (.agg #[(.slice none 0 0), (.slice none 0 0)]) [(4, pv b4)] hA H rfl rfl (Nat.le_of_ble_eq_true (by kernel_rfl)) rfl (fun v hv => by simp only [List.mem_cons, List.not_mem_nil, or_false] at hv; rcases hv with rfl | rfl; exact rfl; exact rfl) fun a w23 H hA hG => ?_
   replace H : Fr _ _ _ [.box b4 29 [(.slice none 0 0), (.slice none 0 0)], .box b2 24 [.int .i64 n, ve]] := H
   refine q_list 2 1 [] [(4, pv b4), (5, iv 4)] (TT ∧ True) hA H ⟨tv, tv⟩ fun a w24 hA H hG => ?_
   refine list_end ?_
   refine hK21 _ _ ?_
   refine go_ret_ ?_
   refine ret_cell2 4 5 29 0 b4 29 [(.slice none 0 0), (.slice none 0 0)] #[(.slice none 0 0), (.slice none 0 0)] (.int .i64 4) hA H rfl ?_ (ht := ⟨_, Try.underlying29⟩)
   have e1 : spanE n E L = (([], []), 4) := by unfold spanE; rw [if_neg (by omega), if_pos hhb20]
   rw [e1]; exact ⟨_, rfl, ⟨_, rfl, rd_two rd_nil rd_nil⟩, H.below⟩
 have hhb20 := of_decide_eq_true (nF hb20)
 refine go_skip ?_
 refine hK17 _ _ ?_
 refine go_seq fun K25 hK25 => ?_
 have hr0 := rightE_0 (n := n) (E := E) (by omega)
 have hr1 := hhb20
 have hl9 := rises_len hr1 (by omega)
 refine region_list ?_
 refine list_at 0 ?_; refine q_alloc 0 7 29 [(.slice none 0 0), (.slice none 0 0)] [(1, vl), (2, pv b2), (4, pv b4)] hA H fun b26 a w27 H hA hG hge_b26 => ?_
 clear hge_b26
 replace H := H.newRow (α := Int) 3
 replace H := H.newRow (α := Int) 3
 refine list_end ?_
 refine hK25 _ _ ?_
 refine go_seq fun K28 hK28 => ?_
 refine go_seq fun K29 hK29 => ?_
 refine q_reg [(24, iv (L.length : Int))] [(2, pv b2), (4, pv b4), (7, pv b26), (23, vl), (24, iv (L.length : Int)), (25, iv 0)] (TT ∧ (LenOk vl (L.length : Int)) ∧ TT ∧ True) hA H ⟨tv, by exact len_ok (H.arg hL), tv, tv⟩ fun a w30 hA H hG => ?_
 refine hK29 _ _ ?_
 refine go_block 0 ?_
 refine go_loop_ (Int × Value × Value × List Int × List Int) (fun x_ a W => (fun (i : Int) (vr : Value) (vr2 : Value) (l : List Int) (l2 : List Int) => EnvOk 61 a (keepEnv [(2, pv b2), (4, pv b4), (7, pv b26), (23, vl), (24, iv (L.length : Int)), (25, iv i)]) ∧ (∃ S, Fr o W S [.row 3 vr2 l2, .row 3 vr l, .box b26 29 [vr, vr2], .box b4 29 [(.slice none 0 0), (.slice none 0 0)], .box b2 24 [.int .i64 n, ve]]) ∧ 0 ≤ i ∧ i ≤ (L.length : Int) ∧ (l.length : Int) ≤ 2 * i ∧ (l2.length : Int) ≤ i ∧ l ++ endsL E (L.drop i.toNat) = endsL E L ∧ l2 ++ L.drop i.toNat = L) x_.1 x_.2.1 x_.2.2.1 x_.2.2.2.1 x_.2.2.2.2) (fun x_ => (fun (i : Int) (vr : Value) (vr2 : Value) (l : List Int) (l2 : List Int) => ((L.length : Int) - i).toNat) x_.1 x_.2.1 x_.2.2.1 x_.2.2.2.1 x_.2.2.2.2) (0, .slice none 0 0, .slice none 0 0, [], []) ?_ (fun x_ a w32 hI => ?_)
 · (try dsimp only); exact ⟨env_sub _ hA, ⟨_, H⟩, by omega, by omega, by simp, by simp, by simp, by simp⟩
 obtain ⟨i, vr, vr2, l, l2⟩ := x_
 obtain ⟨hA, ⟨S, H⟩, h0, h0b, h1, h2, hi, hi2⟩ := hI
 try dsimp only at h0 h0b h1 h2 hi hi2
 replace H : Fr _ _ _ [.row 3 vr2 l2, .row 3 vr l, .box b26 29 [vr, vr2], .box b4 29 [(.slice none 0 0), (.slice none 0 0)], .box b2 24 [.int .i64 n, ve]] := H
 refine go_seq fun K33 hK33 => ?_
 refine q_reg [] [(2, pv b2), (4, pv b4), (7, pv b26), (23, vl), (24, iv (L.length : Int)), (25, iv i), (26, .bool (decide (i < (L.length : Int))))] (TT ∧ True) hA H ⟨tv, tv⟩ fun a w34 hA H hG => ?_
 refine hK33 _ _ ?_
 refine go_seq fun K35 hK35 => ?_
 refine go_cond hA (.tmp 26) (decide (i < (L.length : Int))) (fun hb36 => ?_) (fun hb36 => ?_)
 · have hhb36 := of_decide_eq_true hb36
   refine go_skip ?_
   refine hK35 _ _ ?_
   refine go_seq fun K37 hK37 => ?_
   refine go_block 1 ?_
   refine go_seq fun K38 hK38 => ?_
   have hx := hr1 i.toNat (by omega)
   refine q_reg [(28, iv (L.getD i.toNat 0))] [(2, pv b2), (4, pv b4), (7, pv b26), (9, iv (L.getD i.toNat 0)), (23, vl), (24, iv (L.length : Int)), (25, iv i)] (((Try.prog.info? 3).isSome = true ∧ IdxOk vl i) ∧ (CellOk (On w34) (hdB vl) (hdO vl + i.toNat * 1) (.int .i64 (L.getD i.toNat 0))) ∧ TT ∧ True) hA H ⟨⟨by kernel_rfl, by exact idx_ok (H.arg hL) (by omega) (by omega)⟩, by exact cell_flat (i := i) (H.arg hL) (by omega) (by omega) 0 0, tv, tv⟩ fun a w39 hA H hG => ?_
   refine hK38 _ _ ?_
   refine go_seq fun K40 hK40 => ?_
   refine region_list ?_
   refine q_list 0 3 [(30, vr2)] [(2, pv b2), (4, pv b4), (7, pv b26), (9, iv (L.getD i.toNat 0)), (23, vl), (24, iv (L.length : Int)), (25, iv i), (30, vr2), (31, iv (L.getD i.toNat 0))] ((0 < Try.prog.cellsOf 27) ∧ (CellOk (On w39) b26 (0 + 1) (vr2)) ∧ TT ∧ True) hA H ⟨by decide +kernel, by exact box_cell H 2 rfl 1, tv, tv⟩ fun a w41 hA H hG => ?_
   refine list_at 3 ?_; refine q_lit 3 32 27 1 #[(0, .tmp 31)] 3 [(0, iv (L.getD i.toNat 0))] [.int .i64 (L.getD i.toNat 0)] [(2, pv b2), (4, pv b4), (7, pv b26), (9, iv (L.getD i.toNat 0)), (23, vl), (24, iv (L.length : Int)), (25, iv i), (30, vr2)] hA H fun b42 a w43 H hA hG hge_b42 => ?_
   clear hge_b42
   refine list_at 4 ?_; refine q_push 4 33 (.tmp 30) (.tmp 32) 1 0 b42 1 1 vr2 l2 [(L.getD i.toNat 0)] [.int .i64 (L.getD i.toNat 0)] [(2, pv b2), (4, pv b4), (7, pv b26), (9, iv (L.getD i.toNat 0)), (23, vl), (24, iv (L.length : Int)), (25, iv i)] hA H Try.E27 rfl rfl (by exact (RowRd.single (α := Int) rfl)) rfl (by simp only [List.length_cons, List.length_nil, List.length_append]; omega) (by decide) fun v44 a w45 H hA hG => ?_
   replace H : Fr _ _ _ [.row 3 v44 (l2 ++ [(L.getD i.toNat 0)]), .row 3 vr l, .box b26 29 [vr, vr2], .box b4 29 [(.slice none 0 0), (.slice none 0 0)], .box b2 24 [.int .i64 n, ve]] := H.drop 0
   refine q_list 5 1 [] [(2, pv b2), (4, pv b4), (7, pv b26), (9, iv (L.getD i.toNat 0)), (23, vl), (24, iv (L.length : Int)), (25, iv i), (33, v44), (34, .pointer (some ⟨b26, 0 + 1, none⟩))] ((0 < Try.prog.cellsOf 27) ∧ True) hA H ⟨by decide +kernel, tv⟩ fun a w46 hA H hG => ?_
   refine list_at 6 ?_; refine q_store 6 27 (.tmp 34) (.tmp 33) 2 b26 (0 + 1) 29 [vr, vr2] [v44] [vr, v44] v44 [(2, pv b2), (4, pv b4), (7, pv b26), (9, iv (L.getD i.toNat 0)), (23, vl), (24, iv (L.length : Int)), (25, iv i)] hA H rfl (one_cells (rd_one (H.out 0 rfl))) (Nat.le_of_ble_eq_true (by kernel_rfl)) rfl (fun v hv => by simp only [List.mem_cons, List.not_mem_nil, or_false] at hv; rcases hv with rfl; exact (rd_one (H.out 0 rfl))) fun a w47 H hA hG => ?_
   replace H : Fr _ _ _ [.row 3 v44 (l2 ++ [(L.getD i.toNat 0)]), .row 3 vr l, .box b26 29 [vr, v44], .box b4 29 [(.slice none 0 0), (.slice none 0 0)], .box b2 24 [.int .i64 n, ve]] := H
   refine list_end ?_
   refine hK40 _ _ ?_
   have H0 := H
   have hM0 := H0.keeps vr.ownBlock (.inr ⟨_, List.mem_of_getElem? (i := 1) rfl, rfl⟩)
   refine region_mix (But w47 vr.ownBlock) [0, 1, 2, 3, 4, 5, 6, 7, 8, 9, 10, 11, 12, 13, 14, 15] 18 ?_
   replace H := H.drawn; have hD := But.drew w47 vr.ownBlock
   generalize ({ w47 with drawn := w47.drawn + 1 } : World) = w48 at H hD ⊢
   refine m_take (n := 4) [0, 1, 2, 3, 4, 5, 6, 7, 8, 9, 10, 11, 12, 13] #[true, true, true, true, true, true, true, true, true, true, true, true, true, true, false, false, false, false] [(36, vr), (38, ve), (42, iv ((E.getD (L.getD i.toNat 0).toNat (0, 0)).1)), (44, ve), (48, iv ((E.getD (L.getD i.toNat 0).toNat (0, 0)).2))] [(2, pv b2), (4, pv b4), (7, pv b26), (23, vl), (24, iv (L.length : Int)), (25, iv i), (36, vr), (42, iv ((E.getD (L.getD i.toNat 0).toNat (0, 0)).1)), (48, iv ((E.getD (L.getD i.toNat 0).toNat (0, 0)).2))] ((0 < Try.prog.cellsOf 27) ∧ (CellOk (But w47 vr.ownBlock) b26 (0 + 0) (vr)) ∧ (0 < Try.prog.cellsOf 22) ∧ (CellOk (But w47 vr.ownBlock) b2 (0 + 1) (ve)) ∧ TT ∧ ((Try.prog.info? 99).isSome = true ∧ IdxOk ve (L.getD i.toNat 0)) ∧ (0 < Try.prog.cellsOf 3) ∧ (CellOk (But w47 vr.ownBlock) (hdB ve) (hdO ve + (L.getD i.toNat 0).toNat * 2 + 0) (.int .i64 ((E.getD (L.getD i.toNat 0).toNat (0, 0)).1))) ∧ (0 < Try.prog.cellsOf 22) ∧ (CellOk (But w47 vr.ownBlock) b2 (0 + 1) (ve)) ∧ TT ∧ ((Try.prog.info? 99).isSome = true ∧ IdxOk ve (L.getD i.toNat 0)) ∧ (0 < Try.prog.cellsOf 3) ∧ (CellOk (But w47 vr.ownBlock) (hdB ve) (hdO ve + (L.getD i.toNat 0).toNat * 2 + 1) (.int .i64 ((E.getD (L.getD i.toNat 0).toNat (0, 0)).2))) ∧ True) hA hD ⟨by decide +kernel, by exact box_cellC (box_atC H0 vr.ownBlock 2 rfl (H0.apart 2 1 (by decide) rfl rfl rfl)) 0, by decide +kernel, by exact box_cellC (box_atC H0 vr.ownBlock 4 rfl (H0.apart 4 1 (by decide) rfl rfl rfl)) 1, tv, ⟨by kernel_rfl, by exact idx_ok (H0.argT hE) (by omega) (by omega)⟩, by decide +kernel, by exact cell_flatC hM0 (i := (L.getD i.toNat 0)) (H0.argT hE) (by omega) (by omega) (0, 0) 0, by decide +kernel, by exact box_cellC (box_atC H0 vr.ownBlock 4 rfl (H0.apart 4 1 (by decide) rfl rfl rfl)) 1, tv, ⟨by kernel_rfl, by exact idx_ok (H0.argT hE) (by omega) (by omega)⟩, by decide +kernel, by exact cell_flatC hM0 (i := (L.getD i.toNat 0)) (H0.argT hE) (by omega) (by omega) (0, 0) 1, tv⟩ fun a hA => ?_
   refine m_one 14 ?_; refine q_lit 14 49 27 2 #[(0, .tmp 42), (1, .tmp 48)] 3 [(0, iv ((E.getD (L.getD i.toNat 0).toNat (0, 0)).1)), (1, iv ((E.getD (L.getD i.toNat 0).toNat (0, 0)).2))] [.int .i64 ((E.getD (L.getD i.toNat 0).toNat (0, 0)).1), .int .i64 ((E.getD (L.getD i.toNat 0).toNat (0, 0)).2)] [(2, pv b2), (4, pv b4), (7, pv b26), (23, vl), (24, iv (L.length : Int)), (25, iv i), (36, vr)] hA H fun b49 a w50 H hA hG hge_b49 => ?_
   replace hge_b49 := Nat.le_trans hD.1 hge_b49
   replace hD := hD.below hG
   refine ⟨fun _ => hD, ?_⟩
   refine m_one 15 ?_; refine q_push 15 50 (.tmp 36) (.tmp 49) 2 0 b49 2 2 vr l [(E.getD (L.getD i.toNat 0).toNat (0, 0)).1, (E.getD (L.getD i.toNat 0).toNat (0, 0)).2] [.int .i64 ((E.getD (L.getD i.toNat 0).toNat (0, 0)).1), .int .i64 ((E.getD (L.getD i.toNat 0).toNat (0, 0)).2)] [(2, pv b2), (4, pv b4), (7, pv b26), (23, vl), (24, iv (L.length : Int)), (25, iv i)] hA H Try.E27 rfl rfl (by exact ((RowRd.single (α := Int) rfl).append (RowRd.single (α := Int) rfl))) rfl (by simp only [List.length_cons, List.length_nil, List.length_append]; omega) (by decide) fun v51 a w52 H hA hG => ?_
   replace H : Fr _ _ _ [.row 3 v44 (l2 ++ [(L.getD i.toNat 0)]), .row 3 v51 (l ++ [(E.getD (L.getD i.toNat 0).toNat (0, 0)).1, (E.getD (L.getD i.toNat 0).toNat (0, 0)).2]), .box b26 29 [vr, v44], .box b4 29 [(.slice none 0 0), (.slice none 0 0)], .box b2 24 [.int .i64 n, ve]] := H.drop 0
   replace hD := hD.grown hG (fun b hb => .inl hb.symm)
   refine ⟨fun _ => hD, ?_⟩
   refine m_one 16 ?_; refine q_one 16 [] [(2, pv b2), (4, pv b4), (7, pv b26), (23, vl), (24, iv (L.length : Int)), (25, iv i), (50, v51), (51, .pointer (some ⟨b26, 0 + 0, none⟩))] ((0 < Try.prog.cellsOf 27) ∧ True) hA H ⟨by decide +kernel, tv⟩ fun a w53 H hA hG => ?_
   refine ⟨fun h => absurd h (by decide), ?_⟩
   refine m_one 17 ?_; refine q_store 17 27 (.tmp 51) (.tmp 50) 2 b26 (0 + 0) 29 [vr, v44] [v51] [v51, v44] v51 [(2, pv b2), (4, pv b4), (7, pv b26), (23, vl), (24, iv (L.length : Int)), (25, iv i)] hA H rfl (one_cells (rd_one (H.out 1 rfl))) (Nat.le_of_ble_eq_true (by kernel_rfl)) rfl (fun v hv => by simp only [List.mem_cons, List.not_mem_nil, or_false] at hv; rcases hv with rfl; exact (rd_one (H.out 1 rfl))) fun a w54 H hA hG => ?_
   replace H : Fr _ _ _ [.row 3 v44 (l2 ++ [(L.getD i.toNat 0)]), .row 3 v51 (l ++ [(E.getD (L.getD i.toNat 0).toNat (0, 0)).1, (E.getD (L.getD i.toNat 0).toNat (0, 0)).2]), .box b26 29 [v51, v44], .box b4 29 [(.slice none 0 0), (.slice none 0 0)], .box b2 24 [.int .i64 n, ve]] := H
   refine ⟨fun h => absurd h (by decide), ?_⟩
   refine m_end ?_
   refine hK37 _ _ ?_
   refine q_reg [] [(2, pv b2), (4, pv b4), (7, pv b26), (23, vl), (24, iv (L.length : Int)), (25, iv (i + 1))] ((InR .i64 (i + 1)) ∧ TT ∧ True) hA H ⟨⟨by omega, by omega⟩, tv, tv⟩ fun a w55 hA H hG => ?_
   refine ⟨(i + 1, v51, v44, l ++ [(E.getD (L.getD i.toNat 0).toNat (0, 0)).1, (E.getD (L.getD i.toNat 0).toNat (0, 0)).2], l2 ++ [(L.getD i.toNat 0)]), ⟨env_sub _ hA, ⟨_, H⟩, ?_⟩, ?_⟩
   · (try dsimp only); exact ⟨by omega, by omega, by (try simp only [List.length_append, List.length_cons, List.length_nil]); omega, by (try simp only [List.length_append, List.length_cons, List.length_nil]); omega, by rw [endsL_round h0 (by omega)] at hi; (try simp only [List.append_assoc] at hi ⊢); exact hi, by rw [drop_round h0 (by omega)] at hi2; simpa using hi2⟩
   (try dsimp only); omega
 have hhb36 := of_decide_eq_false hb36
 refine go_exit 0 ?_
 refine hK28 _ _ ?_
 refine go_seq fun K56 hK56 => ?_
 rw [endsL_end (by omega), List.append_nil] at hi; rw [drop_end (by omega), List.append_nil] at hi2
 have hl1 : l.length ≤ 10000 := by omega
 refine region_list ?_
 refine q_list 0 2 [(54, vr)] [(4, pv b4), (7, pv b26), (54, vr)] ((0 < Try.prog.cellsOf 27) ∧ (CellOk (On w34) b26 (0 + 0) (vr)) ∧ True) hA H ⟨by decide +kernel, by exact box_cell H 2 rfl 0, tv⟩ fun a w57 hA H hG => ?_
 refine list_at 2 ?_; refine q_any 2 55 74 #[.tmp 54] #[27] [vr] _ [(4, pv b4), (7, pv b26)] hA (by exact sort_row H 1 rfl (by first | omega | (simp only [List.length_mergeSort]; omega) | (simp only [List.length_cons]; omega))) fun v58 a w59 hR60 hA => ?_
 obtain ⟨H, hG⟩ := hR60
 replace H : Fr _ _ _ [.row 3 vr2 l2, .row 3 vr (sortL l), .box b26 29 [vr, vr2], .box b4 29 [(.slice none 0 0), (.slice none 0 0)], .box b2 24 [.int .i64 n, ve]] := H
 refine list_end ?_
 refine hK56 _ _ ?_
 refine go_seq fun K61 hK61 => ?_
 refine region_list ?_
 refine q_list 0 2 [(57, vr)] [(4, pv b4), (7, pv b26), (57, vr)] ((0 < Try.prog.cellsOf 27) ∧ (CellOk (On w59) b26 (0 + 0) (vr)) ∧ True) hA H ⟨by decide +kernel, by exact box_cell H 2 rfl 0, tv⟩ fun a w62 hA H hG => ?_
 refine list_at 2 ?_; refine q_any 2 58 75 #[.tmp 57] #[27] [vr] _ [(4, pv b4), (7, pv b26)] hA (by exact compact_row H 1 rfl (by first | omega | (simp only [List.length_mergeSort]; omega) | (simp only [List.length_cons]; omega))) fun v63 a w64 hR65 hA => ?_
 obtain ⟨H, hG⟩ := hR65
 replace H : Fr _ _ _ [.row 3 vr2 l2, .row 3 v63 (Lib.compact (sortL l)), .box b26 29 [vr, vr2], .box b4 29 [(.slice none 0 0), (.slice none 0 0)], .box b2 24 [.int .i64 n, ve]] := H
 refine q_list 3 1 [] [(4, pv b4), (7, pv b26), (58, v63), (59, .pointer (some ⟨b26, 0 + 0, none⟩))] ((0 < Try.prog.cellsOf 27) ∧ True) hA H ⟨by decide +kernel, tv⟩ fun a w66 hA H hG => ?_
 refine list_at 4 ?_; refine q_store 4 27 (.tmp 59) (.tmp 58) 2 b26 (0 + 0) 29 [vr, vr2] [v63] [v63, vr2] v63 [(4, pv b4), (7, pv b26)] hA H rfl (one_cells (rd_one (H.out 1 rfl))) (Nat.le_of_ble_eq_true (by kernel_rfl)) rfl (fun v hv => by simp only [List.mem_cons, List.not_mem_nil, or_false] at hv; rcases hv with rfl; exact (rd_one (H.out 1 rfl))) fun a w67 H hA hG => ?_
 replace H : Fr _ _ _ [.row 3 vr2 l2, .row 3 v63 (Lib.compact (sortL l)), .box b26 29 [v63, vr2], .box b4 29 [(.slice none 0 0), (.slice none 0 0)], .box b2 24 [.int .i64 n, ve]] := H
 refine list_end ?_
 refine hK61 _ _ ?_
 refine go_seq fun K68 hK68 => ?_
 refine region_list ?_
 refine q_list 0 1 [(60, .agg #[v63, vr2])] [(4, pv b4), (60, .agg #[v63, vr2])] (((Try.prog.info? 29).isSome = true ∧ RowOk (On w67) b26 (0) (Try.prog.cellsOf 29) #[v63, vr2]) ∧ True) hA H ⟨⟨by kernel_rfl, by exact box_row H 2 rfl 0 2⟩, tv⟩ fun a w69 hA H hG => ?_
 refine list_at 1 ?_; refine q_store 1 29 (.tmp 4) (.tmp 60) 3 b4 (0) 29 [(.slice none 0 0), (.slice none 0 0)] [v63, vr2] [v63, vr2] (.agg #[v63, vr2]) [(4, pv b4)] hA H rfl rfl (Nat.le_of_ble_eq_true (by kernel_rfl)) rfl (fun v hv => by simp only [List.mem_cons, List.not_mem_nil, or_false] at hv; rcases hv with rfl | rfl; exact (rd_one (H.out 1 rfl)); exact (rd_one (H.out 0 rfl))) fun a w70 H hA hG => ?_
 replace H : Fr _ _ _ [.row 3 vr2 l2, .row 3 v63 (Lib.compact (sortL l)), .box b26 29 [v63, vr2], .box b4 29 [v63, vr2], .box b2 24 [.int .i64 n, ve]] := H
 refine q_list 2 1 [] [(4, pv b4), (5, iv 0)] (TT ∧ True) hA H ⟨tv, tv⟩ fun a w71 hA H hG => ?_
 refine list_end ?_
 refine hK68 _ _ ?_
 refine go_ret_ ?_
 refine ret_cell2 4 5 29 3 b4 29 [v63, vr2] #[v63, vr2] (.int .i64 0) hA H rfl ?_ (ht := ⟨_, Try.underlying29⟩)
 have e1 : spanE n E L = ((Lib.compact (sortL (endsL E L)), L), 0) := by unfold spanE; rw [if_neg (by omega), if_neg (fun q => q hr1)]
 have hV2 := (H.give 1 rfl); have hE2 := (H.give 0 rfl); rw [hi] at hV2; rw [hi2] at hE2
 rw [e1]; exact ⟨_, rfl, ⟨_, rfl, rd_two hV2 hE2⟩, H.below⟩
theorem pwhole_any (vl : Value) (l : List (Int × Int × Int)) (o : Orig) (hL : Rd (· < o.w.heap.size) o.w vl l) (hs : l.length ≤ 100000) (hwf : WfL l) :
 Calls Try.prog 87 [vl].toArray o.w (Giv o (fun S v w' => ∃ g p, v = .tuple #[g, p, .bool (wholeR l).2] ∧ Rd S w' g (wholeR l).1.1 ∧ Rd S w' p (wholeR l).1.2)) := by
 refine enter Try.f87 96 Try.func87 fun a hA => ?_
 replace hA := env_sub [(0, vl)] hA
 have H := Fr.start o
 refine go_seq fun K1 hK1 => ?_
 refine region_list ?_
 refine list_at 0 ?_; refine q_alloc 0 2 24 [.int .i64 0, (.slice none 0 0)] [(0, vl)] hA H fun b2 a w3 H hA hG hge_b2 => ?_
 clear hge_b2
 refine list_at 1 ?_; refine q_alloc 1 3 29 [(.slice none 0 0), (.slice none 0 0)] [(0, vl), (2, pv b2)] hA H fun b4 a w5 H hA hG hge_b4 => ?_
 clear hge_b4
 refine q_list 2 1 [] [(0, vl), (2, pv b2), (3, pv b4)] (TT ∧ True) hA H ⟨tv, tv⟩ fun a w6 hA H hG => ?_
 refine list_end ?_
 refine hK1 _ _ ?_
 refine go_seq fun K7 hK7 => ?_
 refine region_list ?_
 refine list_at 0 ?_; refine q_alloc 0 5 24 [.int .i64 0, (.slice none 0 0)] [(0, vl), (2, pv b2), (3, pv b4)] hA H fun b8 a w9 H hA hG hge_b8 => ?_
 clear hge_b8
 refine list_end ?_
 refine hK7 _ _ ?_
 refine go_seq fun K10 hK10 => ?_
 refine region_list ?_
 refine list_at 0 ?_; refine q_makeMap Int 3 0 14 130 [(0, vl), (2, pv b2), (3, pv b4), (5, pv b8)] hA H fun b11 a w12 H hA hG hge_b11 => ?_
 clear hge_b11
 replace H : Fr _ _ _ [mapN Try.prog 3 b11 [], .box b8 24 [.int .i64 0, (.slice none 0 0)], .box b4 29 [(.slice none 0 0), (.slice none 0 0)], .box b2 24 [.int .i64 0, (.slice none 0 0)]] := H
 refine q_list 1 1 [] [(0, vl), (2, pv b2), (3, pv b4), (5, pv b8), (6, (.map (some b11)))] (TT ∧ True) hA H ⟨tv, tv⟩ fun a w13 hA H hG => ?_
 refine list_end ?_
 refine hK10 _ _ ?_
 refine go_seq fun K14 hK14 => ?_
 refine q_reg [] [(0, vl), (2, pv b2), (3, pv b4), (5, pv b8), (6, (.map (some b11))), (7, (.slice none 0 0))] (TT ∧ True) hA H ⟨tv, tv⟩ fun a w15 hA H hG => ?_
 refine hK14 _ _ ?_
 refine go_seq fun K16 hK16 => ?_
 refine go_seq fun K17 hK17 => ?_
 refine q_reg [(16, iv (l.length : Int))] [(2, pv b2), (3, pv b4), (5, pv b8), (6, (.map (some b11))), (7, (.slice none 0 0)), (15, vl), (16, iv (l.length : Int)), (17, iv 0)] (TT ∧ (LenOk vl (l.length : Int)) ∧ TT ∧ True) hA H ⟨tv, by exact len_ok (H.arg hL), tv, tv⟩ fun a w18 hA H hG => ?_
 refine hK17 _ _ ?_
 refine go_block 0 ?_
 replace H := H.newRow (α := Int) 3
 replace H := H.newRow (α := Int × Int) 99
 replace H := Fr.order [.row 99 (.slice none 0 0) ([] : List (Int × Int)), .row 3 (.slice none 0 0) ([] : List Int), mapN Try.prog 3 b11 [], .box b8 24 [.int .i64 0, (.slice none 0 0)], .box b4 29 [(.slice none 0 0), (.slice none 0 0)], .box b2 24 [.int .i64 0, (.slice none 0 0)]] [] H [2, 3, 0, 1, 4, 5] (by show List.Perm _ (List.range 6); decide)
 replace H : Fr _ _ _ [mapN Try.prog 3 b11 [], .box b8 24 [.int .i64 0, (.slice none 0 0)], .row 99 (.slice none 0 0) ([] : List (Int × Int)), .row 3 (.slice none 0 0) ([] : List Int), .box b4 29 [(.slice none 0 0), (.slice none 0 0)], .box b2 24 [.int .i64 0, (.slice none 0 0)]] := H
 refine go_loop_ (Int × List (Int × Int) × Int × Value × List (Int × Int) × Value × List Int) (fun x_ a W => (fun (i : Int) (m : List (Int × Int)) (n : Int) (ve : Value) (e : List (Int × Int)) (vd : Value) (d : List Int) => EnvOk 96 a (keepEnv [(2, pv b2), (3, pv b4), (5, pv b8), (6, (.map (some b11))), (7, vd), (15, vl), (16, iv (l.length : Int)), (17, iv i)]) ∧ (∃ S, Fr o W S [mapN Try.prog 3 b11 m, .box b8 24 [.int .i64 n, ve], .row 99 ve e, .row 3 vd d, .box b4 29 [(.slice none 0 0), (.slice none 0 0)], .box b2 24 [.int .i64 0, (.slice none 0 0)]]) ∧ 0 ≤ i ∧ i ≤ (l.length : Int) ∧ (m.length : Int) ≤ i ∧ (e.length : Int) ≤ i ∧ (d.length : Int) ≤ i ∧ (∀ j : Nat, (j : Int) < i → okLk l j) ∧ (∀ x, (lastAt m x).isSome = true ↔ x ∈ idsK (l.take i.toNat)) ∧ n = nK (l.take i.toNat) ∧ e = eK (l.take i.toNat) ∧ d = upto i) x_.1 x_.2.1 x_.2.2.1 x_.2.2.2.1 x_.2.2.2.2.1 x_.2.2.2.2.2.1 x_.2.2.2.2.2.2) (fun x_ => (fun (i : Int) (m : List (Int × Int)) (n : Int) (ve : Value) (e : List (Int × Int)) (vd : Value) (d : List Int) => ((l.length : Int) - i).toNat) x_.1 x_.2.1 x_.2.2.1 x_.2.2.2.1 x_.2.2.2.2.1 x_.2.2.2.2.2.1 x_.2.2.2.2.2.2) (0, [], 0, .slice none 0 0, [], .slice none 0 0, []) ?_ (fun x_ a w20 hI => ?_)
 · (try dsimp only); exact ⟨env_sub _ hA, ⟨_, H⟩, by omega, by omega, by simp, by simp, by simp, fun j hj => by omega, fun x => by simp [lastAt, idsK], by simp [nK], by simp [eK], rfl⟩
 obtain ⟨i, m, n, ve, e, vd, d⟩ := x_
 obtain ⟨hA, ⟨S, H⟩, h0, h0b, hm1, he1, hd1, hok, hid, hn, he, hd⟩ := hI
 try dsimp only at h0 h0b hm1 he1 hd1 hok hid hn he hd
 replace H : Fr _ _ _ [mapN Try.prog 3 b11 m, .box b8 24 [.int .i64 n, ve], .row 99 ve e, .row 3 vd d, .box b4 29 [(.slice none 0 0), (.slice none 0 0)], .box b2 24 [.int .i64 0, (.slice none 0 0)]] := H
 have hn9 : 0 ≤ n ∧ n ≤ 1024 := by rw [hn]; exact nK_bd2 (by omega) hok
 refine go_seq fun K21 hK21 => ?_
 refine q_reg [] [(2, pv b2), (3, pv b4), (5, pv b8), (6, (.map (some b11))), (7, vd), (15, vl), (16, iv (l.length : Int)), (17, iv i), (18, .bool (decide (i < (l.length : Int))))] (TT ∧ True) hA H ⟨tv, tv⟩ fun a w22 hA H hG => ?_
 refine hK21 _ _ ?_
 refine go_seq fun K23 hK23 => ?_
 refine go_cond hA (.tmp 18) (decide (i < (l.length : Int))) (fun hb24 => ?_) (fun hb24 => ?_)
 · have hhb24 := of_decide_eq_true hb24
   refine go_skip ?_
   refine hK23 _ _ ?_
   refine go_seq fun K25 hK25 => ?_
   refine go_block 1 ?_
   refine go_seq fun K26 hK26 => ?_
   refine region_list ?_
   refine q_list 0 3 [(21, .agg #[.int .i64 ((l.getD i.toNat (0, (0, 0))).1), .int .i64 (((l.getD i.toNat (0, (0, 0))).2).1), .int .i64 (((l.getD i.toNat (0, (0, 0))).2).2)])] [(2, pv b2), (3, pv b4), (5, pv b8), (6, (.map (some b11))), (7, vd), (15, vl), (16, iv (l.length : Int)), (17, iv i), (19, iv i), (21, .agg #[.int .i64 ((l.getD i.toNat (0, (0, 0))).1), .int .i64 (((l.getD i.toNat (0, (0, 0))).2).1), .int .i64 (((l.getD i.toNat (0, (0, 0))).2).2)])] (TT ∧ ((Try.prog.info? 92).isSome = true ∧ IdxOk vl i) ∧ ((Try.prog.info? 92).isSome = true ∧ RowOk (On w22) (hdB vl) (hdO vl + i.toNat * 3) (Try.prog.cellsOf 92) #[.int .i64 ((l.getD i.toNat (0, (0, 0))).1), .int .i64 (((l.getD i.toNat (0, (0, 0))).2).1), .int .i64 (((l.getD i.toNat (0, (0, 0))).2).2)]) ∧ True) hA H ⟨tv, ⟨by kernel_rfl, by exact idx_ok (H.arg hL) (by omega) (by omega)⟩, ⟨by kernel_rfl, by exact row_flat (i := i) (H.arg hL) (by omega) (by omega) (0, (0, 0))⟩, tv⟩ fun a w27 hA H hG => ?_
   refine list_at 3 ?_; refine q_alloc 3 9 92 [.int .i64 0, .int .i64 0, .int .i64 0] [(2, pv b2), (3, pv b4), (5, pv b8), (6, (.map (some b11))), (7, vd), (15, vl), (16, iv (l.length : Int)), (17, iv i), (19, iv i), (21, .agg #[.int .i64 ((l.getD i.toNat (0, (0, 0))).1), .int .i64 (((l.getD i.toNat (0, (0, 0))).2).1), .int .i64 (((l.getD i.toNat (0, (0, 0))).2).2)])] hA H fun b28 a w29 H hA hG hge_b28 => ?_
   clear hge_b28
   refine q_list 4 1 [] [(2, pv b2), (3, pv b4), (5, pv b8), (6, (.map (some b11))), (7, vd), (8, iv i), (9, pv b28), (15, vl), (16, iv (l.length : Int)), (17, iv i), (21, .agg #[.int .i64 ((l.getD i.toNat (0, (0, 0))).1), .int .i64 (((l.getD i.toNat (0, (0, 0))).2).1), .int .i64 (((l.getD i.toNat (0, (0, 0))).2).2)])] (TT ∧ True) hA H ⟨tv, tv⟩ fun a w30 hA H hG => ?_
   refine list_at 5 ?_; refine q_store 5 92 (.tmp 9) (.tmp 21) 0 b28 (0) 92 [.int .i64 0, .int .i64 0, .int .i64 0] [.int .i64 ((l.getD i.toNat (0, (0, 0))).1), .int .i64 (((l.getD i.toNat (0, (0, 0))).2).1), .int .i64 (((l.getD i.toNat (0, (0, 0))).2).2)] [.int .i64 ((l.getD i.toNat (0, (0, 0))).1), .int .i64 (((l.getD i.toNat (0, (0, 0))).2).1), .int .i64 (((l.getD i.toNat (0, (0, 0))).2).2)] (.agg #[.int .i64 ((l.getD i.toNat (0, (0, 0))).1), .int .i64 (((l.getD i.toNat (0, (0, 0))).2).1), .int .i64 (((l.getD i.toNat (0, (0, 0))).2).2)]) [(2, pv b2), (3, pv b4), (5, pv b8), (6, (.map (some b11))), (7, vd), (8, iv i), (9, pv b28), (15, vl), (16, iv (l.length : Int)), (17, iv i)] hA H rfl rfl (Nat.le_of_ble_eq_true (by kernel_rfl)) rfl (fun v hv => by simp only [List.mem_cons, List.not_mem_nil, or_false] at hv; rcases hv with rfl | rfl | rfl; exact rfl; exact rfl; exact rfl) fun a w31 H hA hG => ?_
   replace H : Fr _ _ _ [.box b28 92 [.int .i64 ((l.getD i.toNat (0, (0, 0))).1), .int .i64 (((l.getD i.toNat (0, (0, 0))).2).1), .int .i64 (((l.getD i.toNat (0, (0, 0))).2).2)], mapN Try.prog 3 b11 m, .box b8 24 [.int .i64 n, ve], .row 99 ve e, .row 3 vd d, .box b4 29 [(.slice none 0 0), (.slice none 0 0)], .box b2 24 [.int .i64 0, (.slice none 0 0)]] := H
   refine list_end ?_
   refine hK26 _ _ ?_
   refine go_seq fun K32 hK32 => ?_
   refine go_seq fun K33 hK33 => ?_
   have hwi := hwf i h0 (by omega)
   have hw3 : wfI (l.getD i.toNat (0, (0, 0))).2.2 := hwi.2.2
   unfold wfI at hw3
   have hid9 := hid (l.getD i.toNat (0, (0, 0))).2.2
   refine q_reg [(25, iv (((l.getD i.toNat (0, (0, 0))).2).2)), (26, .tuple #[.int .i64 ((lastAt m (((l.getD i.toNat (0, (0, 0))).2).2)).getD 0), .bool ((lastAt m (((l.getD i.toNat (0, (0, 0))).2).2)).isSome)])] [(2, pv b2), (3, pv b4), (5, pv b8), (6, (.map (some b11))), (7, vd), (8, iv i), (9, pv b28), (11, .bool ((lastAt m (((l.getD i.toNat (0, (0, 0))).2).2)).isSome)), (15, vl), (16, iv (l.length : Int)), (17, iv i)] (TT ∧ (0 < Try.prog.cellsOf 3) ∧ (CellOk (On w31) b28 (0 + 2) (.int .i64 (((l.getD i.toNat (0, (0, 0))).2).2))) ∧ (∀ w', On w31 w' → (Instr.lookup 130 (.map (some b11)) (.int .i64 (((l.getD i.toNat (0, (0, 0))).2).2)) true).run Try.prog w' = .ok (.tuple #[.int .i64 ((lastAt m (((l.getD i.toNat (0, (0, 0))).2).2)).getD 0), .bool ((lastAt m (((l.getD i.toNat (0, (0, 0))).2).2)).isSome)]) w') ∧ TT ∧ TT ∧ TT ∧ TT ∧ TT ∧ True) hA H ⟨tv, by decide +kernel, by exact box_cell H 0 rfl 2, by exact mapN_lookT H 1 rfl (obj_on H 1 rfl) ⟨by omega, by omega⟩ Try.underlying130 Try.underlying3 (fun w => by kernel_rfl), tv, tv, tv, tv, tv, tv⟩ fun a w34 hA H hG => ?_
   refine hK33 _ _ ?_
   refine go_seq fun K35 hK35 => ?_
   refine q_reg [(32, iv ((l.getD i.toNat (0, (0, 0))).1)), (37, iv (((l.getD i.toNat (0, (0, 0))).2).1)), (42, iv ((l.getD i.toNat (0, (0, 0))).1)), (44, iv (((l.getD i.toNat (0, (0, 0))).2).1)), (49, iv ((l.getD i.toNat (0, (0, 0))).1)), (51, iv (((l.getD i.toNat (0, (0, 0))).2).1)), (52, iv (max ((l.getD i.toNat (0, (0, 0))).1) (((l.getD i.toNat (0, (0, 0))).2).1)))] [(2, pv b2), (3, pv b4), (5, pv b8), (6, (.map (some b11))), (7, vd), (8, iv i), (9, pv b28), (15, vl), (16, iv (l.length : Int)), (17, iv i), (54, .bool ((((((lastAt m (((l.getD i.toNat (0, (0, 0))).2).2)).isSome) || (decide ((l.getD i.toNat (0, (0, 0))).1 < 0))) || (decide (((l.getD i.toNat (0, (0, 0))).2).1 < 0))) || (decide ((l.getD i.toNat (0, (0, 0))).1 = ((l.getD i.toNat (0, (0, 0))).2).1))) || (decide ((1024 : Int) ≤ max ((l.getD i.toNat (0, (0, 0))).1) (((l.getD i.toNat (0, (0, 0))).2).1)))))] (TT ∧ TT ∧ (((lastAt m (((l.getD i.toNat (0, (0, 0))).2).2)).isSome) = false → 0 < Try.prog.cellsOf 3) ∧ (((lastAt m (((l.getD i.toNat (0, (0, 0))).2).2)).isSome) = false → CellOk (On w34) b28 (0 + 0) (.int .i64 ((l.getD i.toNat (0, (0, 0))).1))) ∧ (((lastAt m (((l.getD i.toNat (0, (0, 0))).2).2)).isSome) = false → True) ∧ TT ∧ TT ∧ ((((lastAt m (((l.getD i.toNat (0, (0, 0))).2).2)).isSome) || (decide ((l.getD i.toNat (0, (0, 0))).1 < 0))) = false → 0 < Try.prog.cellsOf 3) ∧ ((((lastAt m (((l.getD i.toNat (0, (0, 0))).2).2)).isSome) || (decide ((l.getD i.toNat (0, (0, 0))).1 < 0))) = false → CellOk (On w34) b28 (0 + 1) (.int .i64 (((l.getD i.toNat (0, (0, 0))).2).1))) ∧ ((((lastAt m (((l.getD i.toNat (0, (0, 0))).2).2)).isSome) || (decide ((l.getD i.toNat (0, (0, 0))).1 < 0))) = false → True) ∧ TT ∧ TT ∧ (((((lastAt m (((l.getD i.toNat (0, (0, 0))).2).2)).isSome) || (decide ((l.getD i.toNat (0, (0, 0))).1 < 0))) || (decide (((l.getD i.toNat (0, (0, 0))).2).1 < 0))) = false → 0 < Try.prog.cellsOf 3) ∧ (((((lastAt m (((l.getD i.toNat (0, (0, 0))).2).2)).isSome) || (decide ((l.getD i.toNat (0, (0, 0))).1 < 0))) || (decide (((l.getD i.toNat (0, (0, 0))).2).1 < 0))) = false → CellOk (On w34) b28 (0 + 0) (.int .i64 ((l.getD i.toNat (0, (0, 0))).1))) ∧ (((((lastAt m (((l.getD i.toNat (0, (0, 0))).2).2)).isSome) || (decide ((l.getD i.toNat (0, (0, 0))).1 < 0))) || (decide (((l.getD i.toNat (0, (0, 0))).2).1 < 0))) = false → 0 < Try.prog.cellsOf 3) ∧ (((((lastAt m (((l.getD i.toNat (0, (0, 0))).2).2)).isSome) || (decide ((l.getD i.toNat (0, (0, 0))).1 < 0))) || (decide (((l.getD i.toNat (0, (0, 0))).2).1 < 0))) = false → CellOk (On w34) b28 (0 + 1) (.int .i64 (((l.getD i.toNat (0, (0, 0))).2).1))) ∧ (((((lastAt m (((l.getD i.toNat (0, (0, 0))).2).2)).isSome) || (decide ((l.getD i.toNat (0, (0, 0))).1 < 0))) || (decide (((l.getD i.toNat (0, (0, 0))).2).1 < 0))) = false → True) ∧ TT ∧ TT ∧ ((((((lastAt m (((l.getD i.toNat (0, (0, 0))).2).2)).isSome) || (decide ((l.getD i.toNat (0, (0, 0))).1 < 0))) || (decide (((l.getD i.toNat (0, (0, 0))).2).1 < 0))) || (decide ((l.getD i.toNat (0, (0, 0))).1 = ((l.getD i.toNat (0, (0, 0))).2).1))) = false → 0 < Try.prog.cellsOf 3) ∧ ((((((lastAt m (((l.getD i.toNat (0, (0, 0))).2).2)).isSome) || (decide ((l.getD i.toNat (0, (0, 0))).1 < 0))) || (decide (((l.getD i.toNat (0, (0, 0))).2).1 < 0))) || (decide ((l.getD i.toNat (0, (0, 0))).1 = ((l.getD i.toNat (0, (0, 0))).2).1))) = false → CellOk (On w34) b28 (0 + 0) (.int .i64 ((l.getD i.toNat (0, (0, 0))).1))) ∧ ((((((lastAt m (((l.getD i.toNat (0, (0, 0))).2).2)).isSome) || (decide ((l.getD i.toNat (0, (0, 0))).1 < 0))) || (decide (((l.getD i.toNat (0, (0, 0))).2).1 < 0))) || (decide ((l.getD i.toNat (0, (0, 0))).1 = ((l.getD i.toNat (0, (0, 0))).2).1))) = false → 0 < Try.prog.cellsOf 3) ∧ ((((((lastAt m (((l.getD i.toNat (0, (0, 0))).2).2)).isSome) || (decide ((l.getD i.toNat (0, (0, 0))).1 < 0))) || (decide (((l.getD i.toNat (0, (0, 0))).2).1 < 0))) || (decide ((l.getD i.toNat (0, (0, 0))).1 = ((l.getD i.toNat (0, (0, 0))).2).1))) = false → CellOk (On w34) b28 (0 + 1) (.int .i64 (((l.getD i.toNat (0, (0, 0))).2).1))) ∧ ((((((lastAt m (((l.getD i.toNat (0, (0, 0))).2).2)).isSome) || (decide ((l.getD i.toNat (0, (0, 0))).1 < 0))) || (decide (((l.getD i.toNat (0, (0, 0))).2).1 < 0))) || (decide ((l.getD i.toNat (0, (0, 0))).1 = ((l.getD i.toNat (0, (0, 0))).2).1))) = false → ∀ ty w, (Builtin.max_ #[3, 3] ty [.int .i64 ((l.getD i.toNat (0, (0, 0))).1), .int .i64 (((l.getD i.toNat (0, (0, 0))).2).1)].toArray).run Try.prog w = .ok (.int .i64 (max ((l.getD i.toNat (0, (0, 0))).1) (((l.getD i.toNat (0, (0, 0))).2).1))) w) ∧ ((((((lastAt m (((l.getD i.toNat (0, (0, 0))).2).2)).isSome) || (decide ((l.getD i.toNat (0, (0, 0))).1 < 0))) || (decide (((l.getD i.toNat (0, (0, 0))).2).1 < 0))) || (decide ((l.getD i.toNat (0, (0, 0))).1 = ((l.getD i.toNat (0, (0, 0))).2).1))) = false → True) ∧ TT ∧ True) hA H ⟨tv, tv, fun _ => by decide +kernel, fun _ => by exact box_cell H 0 rfl 0, fun _ => tv, tv, tv, fun _ => by decide +kernel, fun _ => by exact box_cell H 0 rfl 1, fun _ => tv, tv, tv, fun _ => by decide +kernel, fun _ => by exact box_cell H 0 rfl 0, fun _ => by decide +kernel, fun _ => by exact box_cell H 0 rfl 1, fun _ => tv, tv, tv, fun _ => by decide +kernel, fun _ => by exact box_cell H 0 rfl 0, fun _ => by decide +kernel, fun _ => by exact box_cell H 0 rfl 1, fun _ => fun ty w => max_ok ty w, fun _ => tv, tv, tv⟩ fun a w36 hA H hG => ?_
   refine hK35 _ _ ?_
   refine go_cond hA (.tmp 54) ((((((lastAt m (((l.getD i.toNat (0, (0, 0))).2).2)).isSome) || (decide ((l.getD i.toNat (0, (0, 0))).1 < 0))) || (decide (((l.getD i.toNat (0, (0, 0))).2).1 < 0))) || (decide ((l.getD i.toNat (0, (0, 0))).1 = ((l.getD i.toNat (0, (0, 0))).2).1))) || (decide ((1024 : Int) ≤ max ((l.getD i.toNat (0, (0, 0))).1) (((l.getD i.toNat (0, (0, 0))).2).1)))) (fun hb37 => ?_) (fun hb37 => ?_)
   · have hhb37 := (oT hb37).imp (fun h => (oT h).imp (fun h => (oT h).imp (fun h => (oT h).imp (fun h => h) (fun h => of_decide_eq_true h)) (fun h => of_decide_eq_true h)) (fun h => of_decide_eq_true h)) (fun h => of_decide_eq_true h)
     refine go_seq fun K38 hK38 => ?_
     refine region_list ?_
     refine q_list 0 2 [(55, .agg #[.int .i64 0, (.slice none 0 0)]), (56, .agg #[(.slice none 0 0), (.slice none 0 0)])] [(2, pv b2), (3, pv b4), (55, .agg #[.int .i64 0, (.slice none 0 0)]), (56, .agg #[(.slice none 0 0), (.slice none 0 0)])] ((∀ w, (Instr.build 24 #[]).run Try.prog w = .ok (.agg #[.int .i64 0, (.slice none 0 0)]) w) ∧ (∀ w, (Instr.build 29 #[]).run Try.prog w = .ok (.agg #[(.slice none 0 0), (.slice none 0 0)]) w) ∧ True) hA H ⟨fun w => by kernel_rfl, fun w => by kernel_rfl, tv⟩ fun a w39 hA H hG => ?_
     refine list_at 2 ?_; refine q_store 2 24 (.tmp 2) (.tmp 55) 6 b2 (0) 24 [.int .i64 0, (.slice none 0 0)] [.int .i64 0, (.slice none 0 0)] [.int .i64 0, (.slice none 0 0)] (.agg #[.int .i64 0, (.slice none 0 0)]) [(2, pv b2), (3, pv b4), (56, .agg #[(.slice none 0 0), (.slice none 0 0)])] hA H rfl rfl (Nat.le_of_ble_eq_true (by kernel_rfl)) rfl (fun v hv => by simp only [List.mem_cons, List.not_mem_nil, or_false] at hv; rcases hv with rfl | rfl; exact rfl; exact rfl) fun a w40 H hA hG => ?_
     replace H : Fr _ _ _ [.box b28 92 [.int .i64 ((l.getD i.toNat (0, (0, 0))).1), .int .i64 (((l.getD i.toNat (0, (0, 0))).2).1), .int .i64 (((l.getD i.toNat (0, (0, 0))).2).2)], mapN Try.prog 3 b11 m, .box b8 24 [.int .i64 n, ve], .row 99 ve e, .row 3 vd d, .box b4 29 [(.slice none 0 0), (.slice none 0 0)], .box b2 24 [.int .i64 0, (.slice none 0 0)]] := H
     refine list_at 3 ?_; refine q_store 3 29 (.tmp 3) (.tmp 56) 5 b4 (0) 29 [(.slice none 0 0), (.slice none 0 0)] [(.slice none 0 0), (.slice none 0 0)] [(.slice none 0 0), (.slice none 0 0)] (.agg #[(.slice none 0 0), (.slice none 0 0)]) [(2, pv b2), (3, pv b4)] hA H rfl rfl (Nat.le_of_ble_eq_true (by kernel_rfl)) rfl (fun v hv => by simp only [List.mem_cons, List.not_mem_nil, or_false] at hv; rcases hv with rfl | rfl; exact rfl; exact rfl) fun a w41 H hA hG => ?_
     replace H : Fr _ _ _ [.box b28 92 [.int .i64 ((l.getD i.toNat (0, (0, 0))).1), .int .i64 (((l.getD i.toNat (0, (0, 0))).2).1), .int .i64 (((l.getD i.toNat (0, (0, 0))).2).2)], mapN Try.prog 3 b11 m, .box b8 24 [.int .i64 n, ve], .row 99 ve e, .row 3 vd d, .box b4 29 [(.slice none 0 0), (.slice none 0 0)], .box b2 24 [.int .i64 0, (.slice none 0 0)]] := H
     refine q_list 4 1 [] [(2, pv b2), (3, pv b4), (4, .bool false)] (TT ∧ True) hA H ⟨tv, tv⟩ fun a w42 hA H hG => ?_
     refine list_end ?_
     refine hK38 _ _ ?_
     refine go_ret_ ?_
     refine ret_cells3 2 3 4 24 29 6 5 b2 b4 24 29 [.int .i64 0, (.slice none 0 0)] [(.slice none 0 0), (.slice none 0 0)] #[.int .i64 0, (.slice none 0 0)] #[(.slice none 0 0), (.slice none 0 0)] (.bool false) hA H rfl rfl ?_ (ht := ⟨_, Try.underlying24⟩) (ht' := ⟨_, Try.underlying29⟩)
     exact ⟨_, rfl, by rw [wholeR_bad (i := i.toNat) (by omega) (fun q => by obtain ⟨p1, p2, p3, p4, p5⟩ := (okLk_iff ⟨h0, by omega⟩ hid).1 q; rcases hhb37 with (((h | h) | h) | h) | h; all_goals first | exact p1 h | exact p4 h | omega)]; exact ⟨_, _, rfl, rd_gp rd_nil, rd_two (x := (([] : List Int), ([] : List Int))) rd_nil rd_nil⟩, H.below⟩
   have hhb37 := (⟨(⟨(⟨(⟨(oF ((oF ((oF ((oF hb37).1)).1)).1)).1, of_decide_eq_false ((oF ((oF ((oF ((oF hb37).1)).1)).1)).2)⟩ : _ ∧ _), of_decide_eq_false ((oF ((oF ((oF hb37).1)).1)).2)⟩ : _ ∧ _), of_decide_eq_false ((oF ((oF hb37).1)).2)⟩ : _ ∧ _), of_decide_eq_false ((oF hb37).2)⟩ : _ ∧ _)
   refine go_skip ?_
   refine hK32 _ _ ?_
   refine go_seq fun K43 hK43 => ?_
   have hlk : okLk l i.toNat := (okLk_iff ⟨h0, by omega⟩ hid).2 (by obtain ⟨⟨⟨⟨q1, q2⟩, q3⟩, q4⟩, q5⟩ := hhb37; exact ⟨by rw [q1]; decide, by omega, by omega, q4, by omega⟩)
   have hlk9 := hlk.2
   refine region_list ?_
   refine q_list 0 4 [(59, iv (((l.getD i.toNat (0, (0, 0))).2).2))] [(2, pv b2), (3, pv b4), (5, pv b8), (6, (.map (some b11))), (7, vd), (8, iv i), (9, pv b28), (15, vl), (16, iv (l.length : Int)), (17, iv i), (57, (.map (some b11))), (59, iv (((l.getD i.toNat (0, (0, 0))).2).2)), (60, iv i)] (TT ∧ (0 < Try.prog.cellsOf 3) ∧ (CellOk (On w36) b28 (0 + 2) (.int .i64 (((l.getD i.toNat (0, (0, 0))).2).2))) ∧ TT ∧ True) hA H ⟨tv, by decide +kernel, by exact box_cell H 0 rfl 2, tv, tv⟩ fun a w44 hA H hG => ?_
   refine list_at 4 ?_; refine q_mapUpdateN 4 130 (.tmp 57) (.tmp 59) (.tmp 60) 1 b11 m (((l.getD i.toNat (0, (0, 0))).2).2) i [(2, pv b2), (3, pv b4), (5, pv b8), (6, (.map (some b11))), (7, vd), (8, iv i), (9, pv b28), (15, vl), (16, iv (l.length : Int)), (17, iv i)] hA H rfl ⟨by omega, by omega⟩ (by (try simp only [List.length_append, List.length_cons, List.length_nil]); omega) Try.underlying130 Try.underlying3 fun a w45 H hA hG => ?_
   replace H : Fr _ _ _ [.box b28 92 [.int .i64 ((l.getD i.toNat (0, (0, 0))).1), .int .i64 (((l.getD i.toNat (0, (0, 0))).2).1), .int .i64 (((l.getD i.toNat (0, (0, 0))).2).2)], mapN Try.prog 3 b11 (m ++ [(((l.getD i.toNat (0, (0, 0))).2).2, i)]), .box b8 24 [.int .i64 n, ve], .row 99 ve e, .row 3 vd d, .box b4 29 [(.slice none 0 0), (.slice none 0 0)], .box b2 24 [.int .i64 0, (.slice none 0 0)]] := H
   refine list_end ?_
   refine hK43 _ _ ?_
   refine go_seq fun K46 hK46 => ?_
   refine region_list ?_
   refine q_list 0 2 [] [(2, pv b2), (3, pv b4), (5, pv b8), (6, (.map (some b11))), (9, pv b28), (15, vl), (16, iv (l.length : Int)), (17, iv i), (61, vd), (62, iv i)] (TT ∧ TT ∧ True) hA H ⟨tv, tv, tv⟩ fun a w47 hA H hG => ?_
   refine list_at 2 ?_; refine q_lit 2 63 27 1 #[(0, .tmp 62)] 3 [(0, iv i)] [.int .i64 i] [(2, pv b2), (3, pv b4), (5, pv b8), (6, (.map (some b11))), (9, pv b28), (15, vl), (16, iv (l.length : Int)), (17, iv i), (61, vd)] hA H fun b48 a w49 H hA hG hge_b48 => ?_
   clear hge_b48
   refine list_at 3 ?_; refine q_push 3 64 (.tmp 61) (.tmp 63) 5 0 b48 1 1 vd d [i] [.int .i64 i] [(2, pv b2), (3, pv b4), (5, pv b8), (6, (.map (some b11))), (9, pv b28), (15, vl), (16, iv (l.length : Int)), (17, iv i)] hA H Try.E27 rfl rfl (by exact (RowRd.single (α := Int) rfl)) rfl (by simp only [List.length_cons, List.length_nil, List.length_append]; omega) (by decide) fun v50 a w51 H hA hG => ?_
   replace H : Fr _ _ _ [.box b28 92 [.int .i64 ((l.getD i.toNat (0, (0, 0))).1), .int .i64 (((l.getD i.toNat (0, (0, 0))).2).1), .int .i64 (((l.getD i.toNat (0, (0, 0))).2).2)], mapN Try.prog 3 b11 (m ++ [(((l.getD i.toNat (0, (0, 0))).2).2, i)]), .box b8 24 [.int .i64 n, ve], .row 99 ve e, .row 3 v50 (d ++ [i]), .box b4 29 [(.slice none 0 0), (.slice none 0 0)], .box b2 24 [.int .i64 0, (.slice none 0 0)]] := H.drop 0
   refine q_list 4 1 [] [(2, pv b2), (3, pv b4), (5, pv b8), (6, (.map (some b11))), (7, v50), (9, pv b28), (15, vl), (16, iv (l.length : Int)), (17, iv i)] (TT ∧ True) hA H ⟨tv, tv⟩ fun a w52 hA H hG => ?_
   refine list_end ?_
   refine hK46 _ _ ?_
   refine go_seq fun K53 hK53 => ?_
   refine region_list ?_
   refine q_list 0 10 [(66, iv n), (68, iv ((l.getD i.toNat (0, (0, 0))).1)), (71, iv (((l.getD i.toNat (0, (0, 0))).2).1)), (73, iv (max (max n (((l.getD i.toNat (0, (0, 0))).1) + 1)) ((((l.getD i.toNat (0, (0, 0))).2).1) + 1)))] [(2, pv b2), (3, pv b4), (5, pv b8), (6, (.map (some b11))), (7, v50), (9, pv b28), (15, vl), (16, iv (l.length : Int)), (17, iv i), (73, iv (max (max n (((l.getD i.toNat (0, (0, 0))).1) + 1)) ((((l.getD i.toNat (0, (0, 0))).2).1) + 1))), (74, .pointer (some ⟨b8, 0 + 0, none⟩))] ((0 < Try.prog.cellsOf 3) ∧ (CellOk (On w52) b8 (0 + 0) (.int .i64 n)) ∧ (0 < Try.prog.cellsOf 3) ∧ (CellOk (On w52) b28 (0 + 0) (.int .i64 ((l.getD i.toNat (0, (0, 0))).1))) ∧ (InR .i64 (((l.getD i.toNat (0, (0, 0))).1) + 1)) ∧ (0 < Try.prog.cellsOf 3) ∧ (CellOk (On w52) b28 (0 + 1) (.int .i64 (((l.getD i.toNat (0, (0, 0))).2).1))) ∧ (InR .i64 ((((l.getD i.toNat (0, (0, 0))).2).1) + 1)) ∧ (∀ ty w, (Builtin.max_ #[3, 3, 3] ty [.int .i64 n, .int .i64 (((l.getD i.toNat (0, (0, 0))).1) + 1), .int .i64 ((((l.getD i.toNat (0, (0, 0))).2).1) + 1)].toArray).run Try.prog w = .ok (.int .i64 (max (max n (((l.getD i.toNat (0, (0, 0))).1) + 1)) ((((l.getD i.toNat (0, (0, 0))).2).1) + 1))) w) ∧ (0 < Try.prog.cellsOf 3) ∧ True) hA H ⟨by decide +kernel, by exact box_cell H 2 rfl 0, by decide +kernel, by exact box_cell H 0 rfl 0, ⟨by omega, by omega⟩, by decide +kernel, by exact box_cell H 0 rfl 1, ⟨by omega, by omega⟩, fun ty w => max3_ok ty w, by decide +kernel, tv⟩ fun a w54 hA H hG => ?_
   refine list_at 10 ?_; refine q_store 10 3 (.tmp 74) (.tmp 73) 2 b8 (0 + 0) 24 [.int .i64 n, ve] [.int .i64 (max (max n (((l.getD i.toNat (0, (0, 0))).1) + 1)) ((((l.getD i.toNat (0, (0, 0))).2).1) + 1))] [.int .i64 (max (max n (((l.getD i.toNat (0, (0, 0))).1) + 1)) ((((l.getD i.toNat (0, (0, 0))).2).1) + 1)), ve] (.int .i64 (max (max n (((l.getD i.toNat (0, (0, 0))).1) + 1)) ((((l.getD i.toNat (0, (0, 0))).2).1) + 1))) [(2, pv b2), (3, pv b4), (5, pv b8), (6, (.map (some b11))), (7, v50), (9, pv b28), (15, vl), (16, iv (l.length : Int)), (17, iv i)] hA H rfl rfl (Nat.le_of_ble_eq_true (by kernel_rfl)) rfl (fun v hv => by simp only [List.mem_cons, List.not_mem_nil, or_false] at hv; rcases hv with rfl; exact rfl) fun a w55 H hA hG => ?_
   replace H : Fr _ _ _ [.box b28 92 [.int .i64 ((l.getD i.toNat (0, (0, 0))).1), .int .i64 (((l.getD i.toNat (0, (0, 0))).2).1), .int .i64 (((l.getD i.toNat (0, (0, 0))).2).2)], mapN Try.prog 3 b11 (m ++ [(((l.getD i.toNat (0, (0, 0))).2).2, i)]), .box b8 24 [.int .i64 (max (max n (((l.getD i.toNat (0, (0, 0))).1) + 1)) ((((l.getD i.toNat (0, (0, 0))).2).1) + 1)), ve], .row 99 ve e, .row 3 v50 (d ++ [i]), .box b4 29 [(.slice none 0 0), (.slice none 0 0)], .box b2 24 [.int .i64 0, (.slice none 0 0)]] := H
   refine list_end ?_
   refine hK53 _ _ ?_
   refine region_list ?_
   refine q_list 0 7 [(76, ve), (78, iv ((l.getD i.toNat (0, (0, 0))).1)), (80, iv (((l.getD i.toNat (0, (0, 0))).2).1)), (81, .agg #[.int .i64 ((l.getD i.toNat (0, (0, 0))).1), .int .i64 (((l.getD i.toNat (0, (0, 0))).2).1)])] [(2, pv b2), (3, pv b4), (5, pv b8), (6, (.map (some b11))), (7, v50), (15, vl), (16, iv (l.length : Int)), (17, iv i), (76, ve), (81, .agg #[.int .i64 ((l.getD i.toNat (0, (0, 0))).1), .int .i64 (((l.getD i.toNat (0, (0, 0))).2).1)])] ((0 < Try.prog.cellsOf 22) ∧ (CellOk (On w55) b8 (0 + 1) (ve)) ∧ (0 < Try.prog.cellsOf 3) ∧ (CellOk (On w55) b28 (0 + 0) (.int .i64 ((l.getD i.toNat (0, (0, 0))).1))) ∧ (0 < Try.prog.cellsOf 3) ∧ (CellOk (On w55) b28 (0 + 1) (.int .i64 (((l.getD i.toNat (0, (0, 0))).2).1))) ∧ (∀ w, (Instr.build 99 #[(0, iv ((l.getD i.toNat (0, (0, 0))).1)), (1, iv (((l.getD i.toNat (0, (0, 0))).2).1))]).run Try.prog w = .ok (.agg #[.int .i64 ((l.getD i.toNat (0, (0, 0))).1), .int .i64 (((l.getD i.toNat (0, (0, 0))).2).1)]) w) ∧ True) hA H ⟨by decide +kernel, by exact box_cell H 2 rfl 1, by decide +kernel, by exact box_cell H 0 rfl 0, by decide +kernel, by exact box_cell H 0 rfl 1, fun w => by kernel_rfl, tv⟩ fun a w56 hA H hG => ?_
   refine list_at 7 ?_; refine q_lit 7 82 22 1 #[(0, .tmp 81)] 99 [(0, .agg #[.int .i64 ((l.getD i.toNat (0, (0, 0))).1), .int .i64 (((l.getD i.toNat (0, (0, 0))).2).1)])] [.int .i64 ((l.getD i.toNat (0, (0, 0))).1), .int .i64 (((l.getD i.toNat (0, (0, 0))).2).1)] [(2, pv b2), (3, pv b4), (5, pv b8), (6, (.map (some b11))), (7, v50), (15, vl), (16, iv (l.length : Int)), (17, iv i), (76, ve)] hA H fun b57 a w58 H hA hG hge_b57 => ?_
   clear hge_b57
   refine list_at 8 ?_; refine q_push 8 83 (.tmp 76) (.tmp 82) 4 0 b57 1 1 ve e [((l.getD i.toNat (0, (0, 0))).1, ((l.getD i.toNat (0, (0, 0))).2).1)] [.int .i64 ((l.getD i.toNat (0, (0, 0))).1), .int .i64 (((l.getD i.toNat (0, (0, 0))).2).1)] [(2, pv b2), (3, pv b4), (5, pv b8), (6, (.map (some b11))), (7, v50), (15, vl), (16, iv (l.length : Int)), (17, iv i)] hA H Try.E22 rfl rfl (by exact (RowRd.single (α := Int × Int) ⟨[_], _, rfl, rfl, rfl⟩)) rfl (by simp only [List.length_cons, List.length_nil, List.length_append]; omega) (by decide) fun v59 a w60 H hA hG => ?_
   replace H : Fr _ _ _ [.box b28 92 [.int .i64 ((l.getD i.toNat (0, (0, 0))).1), .int .i64 (((l.getD i.toNat (0, (0, 0))).2).1), .int .i64 (((l.getD i.toNat (0, (0, 0))).2).2)], mapN Try.prog 3 b11 (m ++ [(((l.getD i.toNat (0, (0, 0))).2).2, i)]), .box b8 24 [.int .i64 (max (max n (((l.getD i.toNat (0, (0, 0))).1) + 1)) ((((l.getD i.toNat (0, (0, 0))).2).1) + 1)), ve], .row 99 v59 (e ++ [((l.getD i.toNat (0, (0, 0))).1, ((l.getD i.toNat (0, (0, 0))).2).1)]), .row 3 v50 (d ++ [i]), .box b4 29 [(.slice none 0 0), (.slice none 0 0)], .box b2 24 [.int .i64 0, (.slice none 0 0)]] := H.drop 0
   refine q_list 9 1 [] [(2, pv b2), (3, pv b4), (5, pv b8), (6, (.map (some b11))), (7, v50), (15, vl), (16, iv (l.length : Int)), (17, iv i), (83, v59), (84, .pointer (some ⟨b8, 0 + 1, none⟩))] ((0 < Try.prog.cellsOf 22) ∧ True) hA H ⟨by decide +kernel, tv⟩ fun a w61 hA H hG => ?_
   refine list_at 10 ?_; refine q_store 10 22 (.tmp 84) (.tmp 83) 2 b8 (0 + 1) 24 [.int .i64 (max (max n (((l.getD i.toNat (0, (0, 0))).1) + 1)) ((((l.getD i.toNat (0, (0, 0))).2).1) + 1)), ve] [v59] [.int .i64 (max (max n (((l.getD i.toNat (0, (0, 0))).1) + 1)) ((((l.getD i.toNat (0, (0, 0))).2).1) + 1)), v59] v59 [(2, pv b2), (3, pv b4), (5, pv b8), (6, (.map (some b11))), (7, v50), (15, vl), (16, iv (l.length : Int)), (17, iv i)] hA H rfl (one_cells (rd_one (H.out 3 rfl))) (Nat.le_of_ble_eq_true (by kernel_rfl)) rfl (fun v hv => by simp only [List.mem_cons, List.not_mem_nil, or_false] at hv; rcases hv with rfl; exact (rd_one (H.out 3 rfl))) fun a w62 H hA hG => ?_
   replace H : Fr _ _ _ [.box b28 92 [.int .i64 ((l.getD i.toNat (0, (0, 0))).1), .int .i64 (((l.getD i.toNat (0, (0, 0))).2).1), .int .i64 (((l.getD i.toNat (0, (0, 0))).2).2)], mapN Try.prog 3 b11 (m ++ [(((l.getD i.toNat (0, (0, 0))).2).2, i)]), .box b8 24 [.int .i64 (max (max n (((l.getD i.toNat (0, (0, 0))).1) + 1)) ((((l.getD i.toNat (0, (0, 0))).2).1) + 1)), v59], .row 99 v59 (e ++ [((l.getD i.toNat (0, (0, 0))).1, ((l.getD i.toNat (0, (0, 0))).2).1)]), .row 3 v50 (d ++ [i]), .box b4 29 [(.slice none 0 0), (.slice none 0 0)], .box b2 24 [.int .i64 0, (.slice none 0 0)]] := H
   refine list_end ?_
   refine hK25 _ _ ?_
   refine q_reg [] [(2, pv b2), (3, pv b4), (5, pv b8), (6, (.map (some b11))), (7, v50), (15, vl), (16, iv (l.length : Int)), (17, iv (i + 1))] ((InR .i64 (i + 1)) ∧ TT ∧ True) hA H ⟨⟨by omega, by omega⟩, tv, tv⟩ fun a w63 hA H hG => ?_
   replace H := H.drop 0
   refine ⟨(i + 1, m ++ [(((l.getD i.toNat (0, (0, 0))).2).2, i)], max (max n (((l.getD i.toNat (0, (0, 0))).1) + 1)) ((((l.getD i.toNat (0, (0, 0))).2).1) + 1), v59, e ++ [((l.getD i.toNat (0, (0, 0))).1, ((l.getD i.toNat (0, (0, 0))).2).1)], v50, d ++ [i]), ⟨env_sub _ hA, ⟨_, H⟩, ?_⟩, ?_⟩
   · (try dsimp only); refine ⟨by omega, by omega, by (try simp only [List.length_append, List.length_cons, List.length_nil]); omega, by (try simp only [List.length_append, List.length_cons, List.length_nil]); omega, by (try simp only [List.length_append, List.length_cons, List.length_nil]); omega, fun j hj => if q : (j : Int) = i then (by rw [show j = i.toNat by omega]; exact hlk) else hok j (by omega), by rw [idsK_snoc h0 (by omega)]; exact put_ids hid _ _, by rw [hn, nK_snoc h0 (by omega)], by rw [he, eK_snoc h0 (by omega)], by rw [hd, upto_succ h0]⟩
   (try dsimp only); omega
 have hhb24 := of_decide_eq_false hb24
 refine go_exit 0 ?_
 refine hK16 _ _ ?_
 refine go_seq fun K64 hK64 => ?_
 refine region_list ?_
 refine q_list 0 2 [(87, .agg #[.int .i64 n, ve])] [(2, pv b2), (3, pv b4), (5, pv b8), (87, .agg #[.int .i64 n, ve]), (88, vd)] (((Try.prog.info? 24).isSome = true ∧ RowOk (On w22) b8 (0) (Try.prog.cellsOf 24) #[.int .i64 n, ve]) ∧ TT ∧ True) hA H ⟨⟨by kernel_rfl, by exact box_row H 1 rfl 0 2⟩, tv, tv⟩ fun a w65 hA H hG => ?_
 refine list_at 2 ?_; refine q_call 2 89 26 #[.tmp 87, .tmp 88] #[24, 27] [.agg #[.int .i64 n, ve], vd] (fun S v_ w' => ∃ p_, v_ = .tuple #[p_, .int .i64 ((spanE n e d).2)] ∧ Rd S w' p_ ((spanE n e d).1)) [(2, pv b2), (3, pv b4), (5, pv b8)] hA H (by exact span_any n ve e vd d H.at (by omega) ((H.out 2 rfl)) ((H.out 3 rfl))) fun v66 a w67 S hR68 H hA hG => ?_
 obtain ⟨v66p, rfl, hR68p⟩ := hR68
 obtain ⟨v66a, v66b, rfl, hR68a, hR68b⟩ := two_rd hR68p
 replace H := H.ro hR68a; replace H := H.ro hR68b
 replace H : Fr _ _ _ [.ro v66b (((spanE n e d).1).2), .ro v66a (((spanE n e d).1).1), mapN Try.prog 3 b11 m, .box b8 24 [.int .i64 n, ve], .row 99 ve e, .row 3 vd d, .box b4 29 [(.slice none 0 0), (.slice none 0 0)], .box b2 24 [.int .i64 0, (.slice none 0 0)]] := H
 refine q_list 3 3 [] [(2, pv b2), (3, pv b4), (5, pv b8), (90, .agg #[v66a, v66b]), (91, iv ((spanE n e d).2))] (TT ∧ TT ∧ TT ∧ True) hA H ⟨tv, tv, tv, tv⟩ fun a w71 hA H hG => ?_
 refine list_at 6 ?_; refine q_alloc 6 12 29 [(.slice none 0 0), (.slice none 0 0)] [(2, pv b2), (3, pv b4), (5, pv b8), (90, .agg #[v66a, v66b]), (91, iv ((spanE n e d).2))] hA H fun b72 a w73 H hA hG hge_b72 => ?_
 clear hge_b72
 refine list_at 7 ?_; refine q_store 7 29 (.tmp 12) (.tmp 90) 0 b72 (0) 29 [(.slice none 0 0), (.slice none 0 0)] [v66a, v66b] [v66a, v66b] (.agg #[v66a, v66b]) [(2, pv b2), (3, pv b4), (5, pv b8), (12, pv b72), (91, iv ((spanE n e d).2))] hA H rfl rfl (Nat.le_of_ble_eq_true (by kernel_rfl)) rfl (fun v hv => by simp only [List.mem_cons, List.not_mem_nil, or_false] at hv; rcases hv with rfl | rfl; exact (rd_one (H.get 2 rfl)); exact (rd_one (H.get 1 rfl))) fun a w74 H hA hG => ?_
 replace H : Fr _ _ _ [.box b72 29 [v66a, v66b], .ro v66b (((spanE n e d).1).2), .ro v66a (((spanE n e d).1).1), mapN Try.prog 3 b11 m, .box b8 24 [.int .i64 n, ve], .row 99 ve e, .row 3 vd d, .box b4 29 [(.slice none 0 0), (.slice none 0 0)], .box b2 24 [.int .i64 0, (.slice none 0 0)]] := H
 refine q_list 8 1 [] [(2, pv b2), (3, pv b4), (5, pv b8), (12, pv b72), (13, iv ((spanE n e d).2))] (TT ∧ True) hA H ⟨tv, tv⟩ fun a w75 hA H hG => ?_
 refine list_end ?_
 refine hK64 _ _ ?_
 refine go_seq fun K76 hK76 => ?_
 have H0 := H
 have hM0 := H0.keepsL [b2, b4] (by intro b_ hb_; simp only [List.mem_cons, List.not_mem_nil, or_false] at hb_; rcases hb_ with rfl | rfl; all_goals first | exact Fr.in_ 8 rfl rfl | exact Fr.in_ 7 rfl rfl)
 refine region_mix (ButL w75 [b2, b4]) [0, 1, 2, 3, 4, 5] 7 ?_
 replace H := H.drawn; have hD := ButL.drew w75 [b2, b4]
 generalize ({ w75 with drawn := w75.drawn + 1 } : World) = w77 at H hD ⊢
 refine m_take (n := 3) [0, 1, 2, 3] #[true, true, true, true, false, false, false] [(92, .agg #[.int .i64 n, ve]), (93, .agg #[v66a, v66b])] [(2, pv b2), (3, pv b4), (92, .agg #[.int .i64 n, ve]), (93, .agg #[v66a, v66b]), (95, .bool (decide ((spanE n e d).2 = 0)))] (((Try.prog.info? 24).isSome = true ∧ RowOk (ButL w75 [b2, b4]) b8 (0) (Try.prog.cellsOf 24) #[.int .i64 n, ve]) ∧ ((Try.prog.info? 29).isSome = true ∧ RowOk (ButL w75 [b2, b4]) b72 (0) (Try.prog.cellsOf 29) #[v66a, v66b]) ∧ TT ∧ TT ∧ True) hA hD ⟨⟨by kernel_rfl, by exact box_rowC (box_atL H0 [b2, b4] 4 rfl (by intro hq; simp only [List.mem_cons, List.not_mem_nil, or_false] at hq; rcases hq with hq | hq; all_goals first | exact H0.apart 4 8 (by decide) rfl rfl rfl (by rw [hq]; rfl) | exact H0.apart 4 7 (by decide) rfl rfl rfl (by rw [hq]; rfl))) 0 2⟩, ⟨by kernel_rfl, by exact box_rowC (box_atL H0 [b2, b4] 0 rfl (by intro hq; simp only [List.mem_cons, List.not_mem_nil, or_false] at hq; rcases hq with hq | hq; all_goals first | exact H0.apart 0 8 (by decide) rfl rfl rfl (by rw [hq]; rfl) | exact H0.apart 0 7 (by decide) rfl rfl rfl (by rw [hq]; rfl))) 0 2⟩, tv, tv, tv⟩ fun a hA => ?_
 refine m_one 4 ?_; refine q_store 4 24 (.tmp 2) (.tmp 92) 8 b2 (0) 24 [.int .i64 0, (.slice none 0 0)] [.int .i64 n, ve] [.int .i64 n, ve] (.agg #[.int .i64 n, ve]) [(2, pv b2), (3, pv b4), (93, .agg #[v66a, v66b]), (95, .bool (decide ((spanE n e d).2 = 0)))] hA H rfl rfl (Nat.le_of_ble_eq_true (by kernel_rfl)) rfl (fun v hv => by simp only [List.mem_cons, List.not_mem_nil, or_false] at hv; rcases hv with rfl | rfl; exact rfl; exact (rd_one (H.out 5 rfl))) fun a w78 H hA hG => ?_
 replace H : Fr _ _ _ [.box b72 29 [v66a, v66b], .ro v66b (((spanE n e d).1).2), .ro v66a (((spanE n e d).1).1), mapN Try.prog 3 b11 m, .box b8 24 [.int .i64 n, ve], .row 99 ve e, .row 3 vd d, .box b4 29 [(.slice none 0 0), (.slice none 0 0)], .box b2 24 [.int .i64 n, ve]] := H
 replace hD := hD.grown hG (fun b_ hb_ => by cases hb_; first | exact .inr (by assumption) | exact .inl (by simp))
 refine ⟨fun _ => hD, ?_⟩
 refine m_one 5 ?_; refine q_store 5 29 (.tmp 3) (.tmp 93) 7 b4 (0) 29 [(.slice none 0 0), (.slice none 0 0)] [v66a, v66b] [v66a, v66b] (.agg #[v66a, v66b]) [(2, pv b2), (3, pv b4), (95, .bool (decide ((spanE n e d).2 = 0)))] hA H rfl rfl (Nat.le_of_ble_eq_true (by kernel_rfl)) rfl (fun v hv => by simp only [List.mem_cons, List.not_mem_nil, or_false] at hv; rcases hv with rfl | rfl; exact (rd_one (H.get 2 rfl)); exact (rd_one (H.get 1 rfl))) fun a w79 H hA hG => ?_
 replace H : Fr _ _ _ [.box b72 29 [v66a, v66b], .ro v66b (((spanE n e d).1).2), .ro v66a (((spanE n e d).1).1), mapN Try.prog 3 b11 m, .box b8 24 [.int .i64 n, ve], .row 99 ve e, .row 3 vd d, .box b4 29 [v66a, v66b], .box b2 24 [.int .i64 n, ve]] := H
 replace hD := hD.grown hG (fun b_ hb_ => by cases hb_; first | exact .inr (by assumption) | exact .inl (by simp))
 refine ⟨fun _ => hD, ?_⟩
 refine m_one 6 ?_; refine q_one 6 [] [(2, pv b2), (3, pv b4), (4, .bool (decide ((spanE n e d).2 = 0)))] (TT ∧ True) hA H ⟨tv, tv⟩ fun a w80 H hA hG => ?_
 refine ⟨fun h => absurd h (by decide), ?_⟩
 refine m_end ?_
 refine hK76 _ _ ?_
 refine go_ret_ ?_
 refine ret_cells3 2 3 4 24 29 8 7 b2 b4 24 29 [.int .i64 n, ve] [v66a, v66b] #[.int .i64 n, ve] #[v66a, v66b] (.bool (decide ((spanE n e d).2 = 0))) hA H rfl rfl ?_ (ht := ⟨_, Try.underlying24⟩) (ht' := ⟨_, Try.underlying29⟩)
 have hokW : okWh l := fun j hj => hok j (by omega)
 have h1 := (H.give 5 rfl); have h2 := (H.giveRo 2 rfl); have h3 := (H.giveRo 1 rfl)
 have hi9 : i = (l.length : Int) := by omega
 rw [List.take_of_length_le (by omega)] at hn he; rw [hi9] at hd; subst hd; subst hn; subst he
 exact ⟨_, rfl, by rw [wholeR_ok hokW]; exact ⟨_, _, rfl, rd_gp h1, rd_two (x := (spanE (nK l) (eK l) (upto (l.length : Int))).1) h2 h3⟩, H.below⟩
theorem btarget_any (n : Int) (ve : Value) (E : List (Int × Int)) (d : Int) (w : World) (hn : -9223372036854775808 ≤ n ∧ n ≤ 9223372036854775807) (hE : Rd (· < w.heap.size) w ve E) (h0 : 0 ≤ d) (h1 : d / 2 < (E.length : Int)) (h2 : d ≤ 1000000000000) :
 Calls Try.prog 128 [.agg #[.int .i64 n, ve], .int .i64 d].toArray w (Ans (.int .i64 (headE E d)) w) := by
 refine enter Try.f128 22 Try.func128 fun a hA => ?_
 replace hA := env_sub [(0, .agg #[.int .i64 n, ve]), (1, iv d)] hA
 have H := Fr.start (org w)
 refine go_seq fun K1 hK1 => ?_
 refine region_list ?_
 refine list_at 0 ?_; refine q_box 0 2 24 (.tmp 0) (.agg #[.int .i64 n, ve]) [.int .i64 n, ve] [(1, iv d)] hA H fun b2 a w3 H hA hG hge_b2 => ?_
 clear hge_b2
 refine q_list 1 1 [] [(1, iv d), (2, pv b2)] (TT ∧ True) hA H ⟨tv, tv⟩ fun a w4 hA H hG => ?_
 refine list_end ?_
 refine hK1 _ _ ?_
 refine go_seq fun K5 hK5 => ?_
 refine go_seq fun K6 hK6 => ?_
 refine q_reg [] [(1, iv d), (2, pv b2), (7, .bool (decide (d % 2 = 0)))] (TT ∧ (0 ≤ d ∧ 0 < (2 : Int)) ∧ TT ∧ True) hA H ⟨tv, ⟨by omega, by omega⟩, tv, tv⟩ fun a w7 hA H hG => ?_
 refine hK6 _ _ ?_
 refine go_cond hA (.tmp 7) (decide (d % 2 = 0)) (fun hb8 => ?_) (fun hb8 => ?_)
 · have hhb8 := of_decide_eq_true hb8
   refine go_seq fun K9 hK9 => ?_
   refine q_reg [(9, ve), (14, iv ((E.getD (d / 2).toNat (0, 0)).2))] [(4, iv ((E.getD (d / 2).toNat (0, 0)).2))] ((0 < Try.prog.cellsOf 22) ∧ (CellOk (On w7) b2 (0 + 1) (ve)) ∧ TT ∧ (0 ≤ d ∧ 0 < (2 : Int) ∧ InR .i64 d) ∧ ((Try.prog.info? 99).isSome = true ∧ IdxOk ve (d / 2)) ∧ (0 < Try.prog.cellsOf 3) ∧ (CellOk (On w7) (hdB ve) (hdO ve + (d / 2).toNat * 2 + 1) (.int .i64 ((E.getD (d / 2).toNat (0, 0)).2))) ∧ TT ∧ True) hA H ⟨by decide +kernel, by exact box_cell H 0 rfl 1, tv, ⟨by omega, by omega, by omega, by omega⟩, ⟨by kernel_rfl, by exact idx_ok (H.arg hE) (by omega) (by omega)⟩, by decide +kernel, by exact cell_flat (i := d / 2) (H.arg hE) (by omega) (by omega) (0, 0) 1, tv, tv⟩ fun a w10 hA H hG => ?_
   refine hK9 _ _ ?_
   refine go_ret_ ?_
   refine ret_one 4 (.int .i64 ((E.getD (d / 2).toNat (0, 0)).2)) hA ?_
   exact ans_i' (by unfold headE eA eB; first | rw [if_pos (by omega)] | rw [if_neg (by omega)]) H.below
 have hhb8 := of_decide_eq_false hb8
 refine go_skip ?_
 refine hK5 _ _ ?_
 refine go_seq fun K11 hK11 => ?_
 refine q_reg [(16, ve), (21, iv ((E.getD (d / 2).toNat (0, 0)).1))] [(4, iv ((E.getD (d / 2).toNat (0, 0)).1))] ((0 < Try.prog.cellsOf 22) ∧ (CellOk (On w7) b2 (0 + 1) (ve)) ∧ TT ∧ (0 ≤ d ∧ 0 < (2 : Int) ∧ InR .i64 d) ∧ ((Try.prog.info? 99).isSome = true ∧ IdxOk ve (d / 2)) ∧ (0 < Try.prog.cellsOf 3) ∧ (CellOk (On w7) (hdB ve) (hdO ve + (d / 2).toNat * 2 + 0) (.int .i64 ((E.getD (d / 2).toNat (0, 0)).1))) ∧ TT ∧ True) hA H ⟨by decide +kernel, by exact box_cell H 0 rfl 1, tv, ⟨by omega, by omega, by omega, by omega⟩, ⟨by kernel_rfl, by exact idx_ok (H.arg hE) (by omega) (by omega)⟩, by decide +kernel, by exact cell_flat (i := d / 2) (H.arg hE) (by omega) (by omega) (0, 0) 0, tv, tv⟩ fun a w12 hA H hG => ?_
 refine hK11 _ _ ?_
 refine go_ret_ ?_
 refine ret_one 4 (.int .i64 ((E.getD (d / 2).toNat (0, 0)).1)) hA ?_
 exact ans_i' (by unfold headE eA eB; first | rw [if_pos (by omega)] | rw [if_neg (by omega)]) H.below
theorem index_any (v : Value) (l : List Int) (x : Int) (w : World) (hl : Rd (· < w.heap.size) w v l) :
 Calls Try.prog 143 [v, .int .i64 x].toArray w (Ans (.int .i64 (idxL l x)) w) := by
 have hlen := rd_len hl
 refine enter Try.f143 19 Try.func143 fun a hA => ?_
 replace hA := env_sub [(0, v), (1, iv x)] hA
 have H := Fr.start (org w)
 refine go_seq fun K1 hK1 => ?_
 refine q_reg [] [(0, v), (1, iv x)] (TT ∧ True) hA H ⟨tv, tv⟩ fun a w2 hA H hG => ?_
 refine hK1 _ _ ?_
 refine go_seq fun K3 hK3 => ?_
 refine go_seq fun K4 hK4 => ?_
 refine q_reg [(7, iv (l.length : Int))] [(0, v), (1, iv x), (7, iv (l.length : Int)), (8, iv 0)] (TT ∧ (LenOk v (l.length : Int)) ∧ TT ∧ True) hA H ⟨tv, by exact len_ok (H.arg hl), tv, tv⟩ fun a w5 hA H hG => ?_
 refine hK4 _ _ ?_
 refine go_block 0 ?_
 refine go_loop_ (Int) (fun x_ a W => (fun (i : Int) => EnvOk 19 a (keepEnv [(0, v), (1, iv x), (7, iv (l.length : Int)), (8, iv i)]) ∧ (∃ S, Fr (org w) W S []) ∧ 0 ≤ i ∧ ∀ j : Nat, (j : Int) < i → l.getD j 0 ≠ x) x_) (fun x_ => (fun (i : Int) => ((l.length : Int) - i).toNat) x_) (0) ?_ (fun i a w7 hI => ?_)
 · (try dsimp only); exact ⟨env_sub _ hA, ⟨_, H⟩, by omega, fun j hj => by omega⟩
 obtain ⟨hA, ⟨S, H⟩, h0, hok⟩ := hI
 try dsimp only at h0 hok
 refine go_seq fun K8 hK8 => ?_
 refine q_reg [] [(0, v), (1, iv x), (7, iv (l.length : Int)), (8, iv i), (9, .bool (decide (i < (l.length : Int))))] (TT ∧ True) hA H ⟨tv, tv⟩ fun a w9 hA H hG => ?_
 refine hK8 _ _ ?_
 refine go_seq fun K10 hK10 => ?_
 refine go_cond hA (.tmp 9) (decide (i < (l.length : Int))) (fun hb11 => ?_) (fun hb11 => ?_)
 · have hhb11 := of_decide_eq_true hb11
   refine go_skip ?_
   refine hK10 _ _ ?_
   refine go_seq fun K12 hK12 => ?_
   refine go_block 1 ?_
   refine go_seq fun K13 hK13 => ?_
   refine q_reg [] [(0, v), (1, iv x), (5, iv i), (7, iv (l.length : Int)), (8, iv i)] (TT ∧ TT ∧ True) hA H ⟨tv, tv, tv⟩ fun a w14 hA H hG => ?_
   refine hK13 _ _ ?_
   refine go_seq fun K15 hK15 => ?_
   refine q_reg [(15, iv (l.getD i.toNat 0))] [(0, v), (1, iv x), (5, iv i), (7, iv (l.length : Int)), (8, iv i), (16, .bool (decide (x = (l.getD i.toNat 0))))] (TT ∧ TT ∧ TT ∧ ((Try.prog.info? 3).isSome = true ∧ IdxOk v i) ∧ (CellOk (On w14) (hdB v) (hdO v + i.toNat * 1) (.int .i64 (l.getD i.toNat 0))) ∧ TT ∧ True) hA H ⟨tv, tv, tv, ⟨by kernel_rfl, by exact idx_ok (H.arg hl) (by omega) (by omega)⟩, by exact cell_flat (i := i) (H.arg hl) (by omega) (by omega) 0 0, tv, tv⟩ fun a w16 hA H hG => ?_
   refine hK15 _ _ ?_
   refine go_cond hA (.tmp 16) (decide (x = (l.getD i.toNat 0))) (fun hb17 => ?_) (fun hb17 => ?_)
   · have hhb17 := of_decide_eq_true hb17
     refine go_seq fun K18 hK18 => ?_
     refine q_reg [] [(4, iv i)] (TT ∧ TT ∧ True) hA H ⟨tv, tv, tv⟩ fun a w19 hA H hG => ?_
     refine hK18 _ _ ?_
     refine go_ret_ ?_
     refine ret_one 4 (.int .i64 i) hA ?_
     exact ans_i' ((idxL_T h0 (by omega) hhb17.symm hok).symm) H.below
   have hhb17 := of_decide_eq_false hb17
   refine go_skip ?_
   refine hK12 _ _ ?_
   refine q_reg [] [(0, v), (1, iv x), (7, iv (l.length : Int)), (8, iv (i + 1))] ((InR .i64 (i + 1)) ∧ TT ∧ True) hA H ⟨⟨by omega, by omega⟩, tv, tv⟩ fun a w20 hA H hG => ?_
   refine ⟨(i + 1), ⟨env_sub _ hA, ⟨_, H⟩, ?_⟩, ?_⟩
   · (try dsimp only); exact ⟨by omega, fun j hj => if e : (j : Int) = i then (by rw [show j = i.toNat by omega]; exact fun q => hhb17 q.symm) else hok j (by omega)⟩
   (try dsimp only); omega
 have hhb11 := of_decide_eq_false hb11
 refine go_exit 0 ?_
 refine hK3 _ _ ?_
 refine go_seq fun K21 hK21 => ?_
 refine q_reg [] [(4, iv (-1))] (TT ∧ True) hA H ⟨tv, tv⟩ fun a w22 hA H hG => ?_
 refine hK21 _ _ ?_
 refine go_ret_ ?_
 refine ret_one 4 (.int .i64 (-1)) hA ?_
 exact ans_i' ((idxL_F (fun j hj => hok j (by omega))).symm) H.below
theorem take_any (n : Int) (ve : Value) (E : List (Int × Int)) (L : List Int) (vd : Value) (DL : List (List Int)) (fb mb lb pb : Nat) (o : Orig) (S : Stab) (s : Deep.St) (ev : Value) (ins : List (Int × Value × List Int)) (tl : List Res) (pre S0 : List Int) (e : Int) (w : World) (hE : Rd (· < o.w.heap.size) o.w ve E) (hH : Fr o w S (finR n ve vd DL fb mb lb pb s ev ins tl)) (hs : s.stk = pre ++ e :: S0) (hp : e ∉ pre) (hb : Deep.Bd s) (hi : insOf ins = s.ins) :
 Calls Try.prog 129 [.pointer (some ⟨fb, 0, none⟩), .int .i64 e].toArray w (FinQ n ve vd DL fb mb lb pb ({ s with stk := pre, blk := s.blk ++ [e :: S0], ins := s.ins ++ [Deep.key (e :: S0)] }) tl o w) := by
 have hil : ins.length ≤ 1000000000 := by have := hb.ins; rw [← hi, List.length_map] at this; exact this
 have hsl0 : s.stk.length ≤ 1000000000 := by have := hb.len; rw [List.length_append] at this; omega
 have hx : idxL s.stk e = (pre.length : Int) := by rw [hs]; exact idxL_at hp
 have hlen9 : S0.length + 1 ≤ 1000000000 := by rw [hs, List.length_append, List.length_cons] at hsl0; omega
 refine enter Try.f129 38 Try.func129 fun a hA => ?_
 replace hA := env_sub [(0, pv fb), (1, iv e)] hA
 have H := hH
 refine go_seq fun K1 hK1 => ?_
 refine q_reg [(9, ev), (11, iv (idxL s.stk e))] [(0, pv fb), (4, iv (idxL s.stk e))] (TT ∧ TT ∧ (0 < Try.prog.cellsOf 27) ∧ (CellOk (On w) fb (0 + 6) (ev)) ∧ TT ∧ (Callable Try.prog 143 ∧ CallOk Try.prog (On w) 143 [ev, .int .i64 e].toArray (.int .i64 (idxL s.stk e))) ∧ TT ∧ True) hA H ⟨tv, tv, by decide +kernel, by exact box_cell H 0 rfl 6, tv, ⟨callable_of, callOk_of fun w hw => by exact index_any ev s.stk e w (((H.on hw).out 3 rfl))⟩, tv, tv⟩ fun a w2 hA H hG => ?_
 refine hK1 _ _ ?_
 refine go_seq fun K3 hK3 => ?_
 refine region_list ?_
 obtain ⟨u, _, hu2, hu3⟩ := reslice (P := Try.prog) (H.out 3 rfl) pre.length s.stk.length (by rw [hs, List.length_append]; omega) (Nat.le_refl _) 27 Try.underlying27 (by kernel_rfl) (by kernel_rfl)
 have hu4 : Rd (· < w2.heap.size) w2 u (e :: S0) := by rw [List.take_of_length_le (by rw [List.length_drop]; exact Nat.le_refl _), hs, List.drop_left] at hu3; exact hu3
 refine q_list 0 6 [(15, ev), (17, u)] [(0, pv fb), (4, iv (idxL s.stk e)), (17, u)] (TT ∧ TT ∧ (0 < Try.prog.cellsOf 27) ∧ (CellOk (On w2) fb (0 + 6) (ev)) ∧ TT ∧ (∀ w, (Instr.sliceAt 27 ev (some (.int .i64 (idxL s.stk e))) none none).run Try.prog w = .ok u w) ∧ True) hA H ⟨tv, tv, by decide +kernel, by exact box_cell H 0 rfl 6, tv, fun w => by rw [hx]; exact hu2 rfl .i64 w, tv⟩ fun a w4 hA H hG => ?_
 replace hu4 := rd_on hu4 hG
 refine list_at 6 ?_; refine q_any 6 18 105 #[.tmp 17] #[27] [u] _ [(0, pv fb), (4, iv (idxL s.stk e))] hA (clone_row H hu4 (by (try simp only [List.length_cons]); omega)) fun v5 a w6 hR7 hA => ?_
 obtain ⟨H, hG⟩ := hR7
 refine q_list 7 1 [] [(0, pv fb), (4, iv (idxL s.stk e)), (5, v5)] (TT ∧ True) hA H ⟨tv, tv⟩ fun a w9 hA H hG => ?_
 refine list_end ?_
 refine hK3 _ _ ?_
 refine go_seq fun K10 hK10 => ?_
 refine region_list ?_
 obtain ⟨u2, hq1, hq2, hq3⟩ := H.cut (P := Try.prog) 4 rfl pre.length (by rw [hs, List.length_append]; omega) (by rw [hs, List.length_append, List.length_cons]; omega) (t := 27) Try.underlying27 (by kernel_rfl)
 rw [show s.stk.take pre.length = pre by rw [hs]; exact List.take_left] at hq3; replace H := hq3
 replace H : Fr _ _ _ (.row 3 v5 (e :: S0) :: .box fb 106 [.int .i64 n, ve, vd, (.slice (some ⟨mb, 0, none⟩) n.toNat n.toNat), (.slice (some ⟨lb, 0, none⟩) n.toNat n.toNat), .int .i64 s.cnt, ev, (.map (some pb))] :: .box mb 3 (arrV n fun j => .int .i64 (s.met j)) :: .box lb 3 (arrV n fun j => .int .i64 (s.low j)) :: .row 3 u2 pre :: mapR Try.prog 3 pb ins :: .ro vd DL :: tl) := H
 refine q_list 0 9 [(23, ev), (25, u2)] [(0, pv fb), (5, v5), (25, u2), (27, .pointer (some ⟨fb, 0 + 6, none⟩))] (TT ∧ TT ∧ TT ∧ (0 < Try.prog.cellsOf 27) ∧ (CellOk (On w9) fb (0 + 6) (ev)) ∧ TT ∧ (∀ w, (Instr.sliceAt 27 ev none (some (.int .i64 (idxL s.stk e))) none).run Try.prog w = .ok u2 w) ∧ TT ∧ (0 < Try.prog.cellsOf 27) ∧ True) hA H ⟨tv, tv, tv, by decide +kernel, by exact box_cell H 1 rfl 6, tv, fun w => by rw [hx]; exact hq1 .i64 w, tv, by decide +kernel, tv⟩ fun a w11 hA H hG => ?_
 refine list_at 9 ?_; refine q_store 9 27 (.tmp 27) (.tmp 25) 1 fb (0 + 6) 106 [.int .i64 n, ve, vd, (.slice (some ⟨mb, 0, none⟩) n.toNat n.toNat), (.slice (some ⟨lb, 0, none⟩) n.toNat n.toNat), .int .i64 s.cnt, ev, (.map (some pb))] [u2] [.int .i64 n, ve, vd, (.slice (some ⟨mb, 0, none⟩) n.toNat n.toNat), (.slice (some ⟨lb, 0, none⟩) n.toNat n.toNat), .int .i64 s.cnt, u2, (.map (some pb))] u2 [(0, pv fb), (5, v5)] hA H rfl (one_cells (rd_one (H.out 4 rfl))) (Nat.le_of_ble_eq_true (by kernel_rfl)) rfl (fun v hv => by simp only [List.mem_cons, List.not_mem_nil, or_false] at hv; rcases hv with rfl; exact (rd_one (H.out 4 rfl))) fun a w12 H hA hG => ?_
 replace H : Fr _ _ _ (.row 3 v5 (e :: S0) :: .box fb 106 [.int .i64 n, ve, vd, (.slice (some ⟨mb, 0, none⟩) n.toNat n.toNat), (.slice (some ⟨lb, 0, none⟩) n.toNat n.toNat), .int .i64 s.cnt, u2, (.map (some pb))] :: .box mb 3 (arrV n fun j => .int .i64 (s.met j)) :: .box lb 3 (arrV n fun j => .int .i64 (s.low j)) :: .row 3 u2 pre :: mapR Try.prog 3 pb ins :: .ro vd DL :: tl) := H
 refine list_end ?_
 refine hK10 _ _ ?_
 refine go_seq fun K13 hK13 => ?_
 refine region_list ?_
 refine q_list 0 1 [] [(0, pv fb), (5, v5), (28, v5)] (TT ∧ True) hA H ⟨tv, tv⟩ fun a w14 hA H hG => ?_
 refine list_at 1 ?_; refine q_any 1 29 74 #[.tmp 28] #[27] [v5] _ [(0, pv fb), (5, v5)] hA (by exact sort_row H 0 rfl (by first | omega | (simp only [List.length_mergeSort]; omega) | (simp only [List.length_cons]; omega))) fun v15 a w16 hR17 hA => ?_
 obtain ⟨H, hG⟩ := hR17
 replace H : Fr _ _ _ (.row 3 v5 (sortL (e :: S0)) :: .box fb 106 [.int .i64 n, ve, vd, (.slice (some ⟨mb, 0, none⟩) n.toNat n.toNat), (.slice (some ⟨lb, 0, none⟩) n.toNat n.toNat), .int .i64 s.cnt, u2, (.map (some pb))] :: .box mb 3 (arrV n fun j => .int .i64 (s.met j)) :: .box lb 3 (arrV n fun j => .int .i64 (s.low j)) :: .row 3 u2 pre :: mapR Try.prog 3 pb ins :: .ro vd DL :: tl) := H
 refine list_end ?_
 refine hK13 _ _ ?_
 obtain ⟨S, _, H⟩ := H.freeze 0 rfl
 replace H : Fr _ _ _ (.ro v5 (sortL (e :: S0)) :: .box fb 106 [.int .i64 n, ve, vd, (.slice (some ⟨mb, 0, none⟩) n.toNat n.toNat), (.slice (some ⟨lb, 0, none⟩) n.toNat n.toNat), .int .i64 s.cnt, u2, (.map (some pb))] :: .box mb 3 (arrV n fun j => .int .i64 (s.met j)) :: .box lb 3 (arrV n fun j => .int .i64 (s.low j)) :: .row 3 u2 pre :: mapR Try.prog 3 pb ins :: .ro vd DL :: tl) := H
 have hk8 : (sortL (e :: S0)).getD (0 : Int).toNat 0 ∈ sortL (e :: S0) := mem_getD.2 ⟨0, by rw [List.length_mergeSort]; simp, rfl⟩
 have hk9 := hb.mem _ (List.mem_append_right _ (by rw [hs]; exact List.mem_append_right _ (mem_sortL.1 hk8)))
 have hsl : (sortL (e :: S0)).length = S0.length + 1 := by rw [List.length_mergeSort]; rfl
 have H0 := H
 have hM0 := H0.keeps none (.inl rfl)
 refine region_mix (But w16 none) [0, 1, 2, 3, 4, 5, 6, 7] 9 ?_
 replace H := H.drawn; have hD := But.drew w16 none
 generalize ({ w16 with drawn := w16.drawn + 1 } : World) = w19 at H hD ⊢
 refine m_take (n := 1) [0, 1, 2, 3, 4, 5, 6, 7] #[true, true, true, true, true, true, true, true, false] [(33, (.map (some pb))), (36, iv ((sortL (e :: S0)).getD (0 : Int).toNat 0))] [(33, (.map (some pb))), (36, iv ((sortL (e :: S0)).getD (0 : Int).toNat 0)), (37, v5)] (TT ∧ TT ∧ (0 < Try.prog.cellsOf 104) ∧ (CellOk (But w16 none) fb (0 + 7) ((.map (some pb)))) ∧ TT ∧ ((Try.prog.info? 3).isSome = true ∧ IdxOk v5 0) ∧ (CellOk (But w16 none) (hdB v5) (hdO v5 + (0 : Int).toNat * 1) (.int .i64 ((sortL (e :: S0)).getD (0 : Int).toNat 0))) ∧ TT ∧ True) hA hD ⟨tv, tv, by decide +kernel, by exact box_cellC (box_atC H0 none 1 rfl (fun e => by cases e)) 7, tv, ⟨by kernel_rfl, by exact idx_ok (H0.getT 0 rfl) (by omega) (by omega)⟩, by exact cell_flatC hM0 (i := (0 : Int)) (H0.getT 0 rfl) (by omega) (by omega) 0 0, tv, tv⟩ fun a hA => ?_
 refine m_one 8 ?_; refine q_mapUpdate 8 104 (.tmp 33) (.tmp 36) (.tmp 37) 5 pb ins ((sortL (e :: S0)).getD (0 : Int).toNat 0) v5 (sortL (e :: S0)) [] hA H rfl (H.getS 0 rfl) ⟨by omega, by omega⟩ (by (try simp only [List.length_append, List.length_cons, List.length_nil]); omega) Try.underlying104 Try.underlying3 fun a w20 H hA hG => ?_
 replace H : Fr _ _ _ (.ro v5 (sortL (e :: S0)) :: .box fb 106 [.int .i64 n, ve, vd, (.slice (some ⟨mb, 0, none⟩) n.toNat n.toNat), (.slice (some ⟨lb, 0, none⟩) n.toNat n.toNat), .int .i64 s.cnt, u2, (.map (some pb))] :: .box mb 3 (arrV n fun j => .int .i64 (s.met j)) :: .box lb 3 (arrV n fun j => .int .i64 (s.low j)) :: .row 3 u2 pre :: mapR Try.prog 3 (α := List (Int)) pb (ins ++ [(((sortL (e :: S0)).getD (0 : Int).toNat 0), v5, sortL (e :: S0))]) :: .ro vd DL :: tl) := H
 refine ⟨fun h => absurd h (by decide), ?_⟩
 refine m_end ?_
 refine ret_noneN (P := Try.prog) (fn := Try.f129) (R := (FinQ n ve vd DL fb mb lb pb ({ s with stk := pre, blk := s.blk ++ [e :: S0], ins := s.ins ++ [Deep.key (e :: S0)] }) tl o w)) hA ?_
 replace H := H.drop 0
 refine ⟨rfl, _, _, _, H, ?_⟩
 show List.map _ (_ ++ _) = _ ++ _; rw [List.map_append]; refine congr (congrArg _ hi) ?_
 show [(_, _)] = [Deep.key _]; unfold Deep.key; rw [head_getD]; rfl
end Go.Proofs.Ytahonnlgkmimlaa
