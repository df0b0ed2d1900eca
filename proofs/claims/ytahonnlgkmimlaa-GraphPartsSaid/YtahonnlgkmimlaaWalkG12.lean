/-
  Walks, written by program: Parts.
-/
import Derived.Test.YtahonnlgkmimlaaProg
import Derived.Test.YtahonnlgkmimlaaWalkG8
import Derived.Test.YtahonnlgkmimlaaGraphD
set_option linter.unusedSimpArgs false
set_option linter.unusedVariables false
namespace Go.Proofs.Ytahonnlgkmimlaa
open Go.RowKit

set_option maxRecDepth 100000 in
set_option maxHeartbeats 1000000 in
theorem graphParts_any (n : Int) (ve : Value) (E : List (Int × Int)) (va ea vb eb : Value) (A B C D : List Int) (x : Int) (w : World) (hn : -9223372036854775808 ≤ n ∧ n ≤ 9223372036854775807) (hE : Rd (· < w.heap.size) w ve E) (gA : Rd (· < w.heap.size) w va A) (gB : Rd (· < w.heap.size) w ea B) (gC : Rd (· < w.heap.size) w vb C) (gD : Rd (· < w.heap.size) w eb D) :
  Calls Try.prog 7 [.agg #[.int .i64 n, ve], .agg #[va, ea], .agg #[vb, eb], .int .i64 x].toArray w (Ans (.bool true) w) := by
  have hlenE := rd_len hE
  refine enter Try.f7 107 Try.func7 fun a hA => ?_
  replace hA := env_sub [(0, .agg #[.int .i64 n, ve]), (1, .agg #[va, ea]), (2, .agg #[vb, eb]), (3, .int .i64 x)] hA
  have H := Fr.start (org w)
  refine go_seq fun K1 hK1 => ?_
  refine region_list ?_
  refine list_at 0 ?_; refine q_box 0 4 24 (.tmp 0) (.agg #[.int .i64 n, ve]) [.int .i64 n, ve] [(1, .agg #[va, ea]), (2, .agg #[vb, eb]), (3, .int .i64 x)] hA H fun b2 a w3 H hA hG hge_b2 => ?_
  clear hge_b2
  refine list_at 1 ?_; refine q_box 1 5 29 (.tmp 1) (.agg #[va, ea]) [va, ea] [(2, .agg #[vb, eb]), (3, .int .i64 x), (4, .pointer (some ⟨b2, 0, none⟩))] hA H fun b4 a w5 H hA hG hge_b4 => ?_
  clear hge_b4
  refine list_at 2 ?_; refine q_box 2 6 29 (.tmp 2) (.agg #[vb, eb]) [vb, eb] [(3, .int .i64 x), (4, .pointer (some ⟨b2, 0, none⟩)), (5, .pointer (some ⟨b4, 0, none⟩))] hA H fun b6 a w7 H hA hG hge_b6 => ?_
  clear hge_b6
  refine q_list 3 1 [] [(3, .int .i64 x), (4, .pointer (some ⟨b2, 0, none⟩)), (5, .pointer (some ⟨b4, 0, none⟩)), (6, .pointer (some ⟨b6, 0, none⟩))] ((True) ∧ True) hA H ⟨trivial, trivial⟩ fun a w8 hA H _ => ?_
  refine list_end ?_
  refine hK1 _ _ ?_
  refine go_seq fun K9 hK9 => ?_
  refine go_seq fun K10 hK10 => ?_
  refine q_reg [(12, .bool true), (15, .agg #[.int .i64 n, ve]), (16, .agg #[va, ea]), (17, .int .i64 (smallI n E A B)), (21, .agg #[.int .i64 n, ve]), (22, .agg #[vb, eb]), (23, .int .i64 (smallI n E C D)), (27, .agg #[.int .i64 n, ve]), (28, .agg #[va, ea]), (29, .int .i64 (partE n E A B)), (33, .agg #[.int .i64 n, ve]), (34, .agg #[vb, eb]), (35, .int .i64 (partE n E C D))] [(3, .int .i64 x), (4, .pointer (some ⟨b2, 0, none⟩)), (5, .pointer (some ⟨b4, 0, none⟩)), (6, .pointer (some ⟨b6, 0, none⟩)), (37, .bool ((((decide (smallI n E A B = 0)) || (decide (smallI n E C D = 0))) || (!decide (partE n E A B = 0))) || (!decide (partE n E C D = 0))))] ((Callable Try.prog 17 ∧ CallOk Try.prog (On w8) 17 [].toArray (.bool true)) ∧ (True) ∧ (True) ∧ ((false) = false → (Try.prog.info? 24).isSome = true ∧ RowOk (On w8) b2 (0) (Try.prog.cellsOf 24) #[.int .i64 n, ve]) ∧ ((false) = false → (Try.prog.info? 29).isSome = true ∧ RowOk (On w8) b4 (0) (Try.prog.cellsOf 29) #[va, ea]) ∧ ((false) = false → Callable Try.prog 18 ∧ CallOk Try.prog (On w8) 18 [.agg #[.int .i64 n, ve], .agg #[va, ea]].toArray (.int .i64 (smallI n E A B))) ∧ ((false) = false → True) ∧ (True) ∧ (True) ∧ ((decide (smallI n E A B = 0)) = false → (Try.prog.info? 24).isSome = true ∧ RowOk (On w8) b2 (0) (Try.prog.cellsOf 24) #[.int .i64 n, ve]) ∧ ((decide (smallI n E A B = 0)) = false → (Try.prog.info? 29).isSome = true ∧ RowOk (On w8) b6 (0) (Try.prog.cellsOf 29) #[vb, eb]) ∧ ((decide (smallI n E A B = 0)) = false → Callable Try.prog 18 ∧ CallOk Try.prog (On w8) 18 [.agg #[.int .i64 n, ve], .agg #[vb, eb]].toArray (.int .i64 (smallI n E C D))) ∧ ((decide (smallI n E A B = 0)) = false → True) ∧ (True) ∧ (True) ∧ (((decide (smallI n E A B = 0)) || (decide (smallI n E C D = 0))) = false → (Try.prog.info? 24).isSome = true ∧ RowOk (On w8) b2 (0) (Try.prog.cellsOf 24) #[.int .i64 n, ve]) ∧ (((decide (smallI n E A B = 0)) || (decide (smallI n E C D = 0))) = false → (Try.prog.info? 29).isSome = true ∧ RowOk (On w8) b4 (0) (Try.prog.cellsOf 29) #[va, ea]) ∧ (((decide (smallI n E A B = 0)) || (decide (smallI n E C D = 0))) = false → Callable Try.prog 31 ∧ CallOk Try.prog (On w8) 31 [.agg #[.int .i64 n, ve], .agg #[va, ea]].toArray (.int .i64 (partE n E A B))) ∧ (((decide (smallI n E A B = 0)) || (decide (smallI n E C D = 0))) = false → True) ∧ (True) ∧ (True) ∧ ((((decide (smallI n E A B = 0)) || (decide (smallI n E C D = 0))) || (!decide (partE n E A B = 0))) = false → (Try.prog.info? 24).isSome = true ∧ RowOk (On w8) b2 (0) (Try.prog.cellsOf 24) #[.int .i64 n, ve]) ∧ ((((decide (smallI n E A B = 0)) || (decide (smallI n E C D = 0))) || (!decide (partE n E A B = 0))) = false → (Try.prog.info? 29).isSome = true ∧ RowOk (On w8) b6 (0) (Try.prog.cellsOf 29) #[vb, eb]) ∧ ((((decide (smallI n E A B = 0)) || (decide (smallI n E C D = 0))) || (!decide (partE n E A B = 0))) = false → Callable Try.prog 31 ∧ CallOk Try.prog (On w8) 31 [.agg #[.int .i64 n, ve], .agg #[vb, eb]].toArray (.int .i64 (partE n E C D))) ∧ ((((decide (smallI n E A B = 0)) || (decide (smallI n E C D = 0))) || (!decide (partE n E A B = 0))) = false → True) ∧ (True) ∧ True) hA H ⟨⟨callable_of, callOk_of fun w hw => by exact awake_any w⟩, trivial, trivial, fun _ => ⟨by kernel_rfl, by exact box_row H 2 rfl 0 2⟩, fun _ => ⟨by kernel_rfl, by exact box_row H 1 rfl 0 2⟩, fun hg0 => by replace hg0 := hg0; exact ⟨callable_of, callOk_of fun w hw => by exact small_any n ve E va ea A B w (by omega) (((H.on hw).arg hE)) (((H.on hw).arg gA)) (((H.on hw).arg gB))⟩, fun _ => trivial, trivial, trivial, fun _ => ⟨by kernel_rfl, by exact box_row H 2 rfl 0 2⟩, fun _ => ⟨by kernel_rfl, by exact box_row H 0 rfl 0 2⟩, fun hg0 => by replace hg0 := of_decide_eq_false hg0; exact ⟨callable_of, callOk_of fun w hw => by exact small_any n ve E vb eb C D w (by omega) (((H.on hw).arg hE)) (((H.on hw).arg gC)) (((H.on hw).arg gD))⟩, fun _ => trivial, trivial, trivial, fun _ => ⟨by kernel_rfl, by exact box_row H 2 rfl 0 2⟩, fun _ => ⟨by kernel_rfl, by exact box_row H 1 rfl 0 2⟩, fun hg0 => by replace hg0 := (⟨of_decide_eq_false ((oF hg0).1), of_decide_eq_false ((oF hg0).2)⟩ : _ ∧ _); exact ⟨callable_of, callOk_of fun w hw => by exact rightPart_any n ve E va ea A B w (by omega) (((H.on hw).arg hE)) (((H.on hw).arg gA)) (((H.on hw).arg gB))⟩, fun _ => trivial, trivial, trivial, fun _ => ⟨by kernel_rfl, by exact box_row H 2 rfl 0 2⟩, fun _ => ⟨by kernel_rfl, by exact box_row H 0 rfl 0 2⟩, fun hg0 => by replace hg0 := (⟨(⟨of_decide_eq_false ((oF ((oF hg0).1)).1), of_decide_eq_false ((oF ((oF hg0).1)).2)⟩ : _ ∧ _), of_decide_eq_true (nF ((oF hg0).2))⟩ : _ ∧ _); exact ⟨callable_of, callOk_of fun w hw => by exact rightPart_any n ve E vb eb C D w (by omega) (((H.on hw).arg hE)) (((H.on hw).arg gC)) (((H.on hw).arg gD))⟩, fun _ => trivial, trivial, trivial⟩ fun a w11 hA H _ => ?_
  refine hK10 _ _ ?_
  refine go_cond hA (.tmp 37) ((((decide (smallI n E A B = 0)) || (decide (smallI n E C D = 0))) || (!decide (partE n E A B = 0))) || (!decide (partE n E C D = 0))) (fun hb12 => ?_) (fun hb12 => ?_)
  · have hhb12 := (oT hb12).imp (fun h => (oT h).imp (fun h => (oT h).imp (fun h => of_decide_eq_true h) (fun h => of_decide_eq_true h)) (fun h => of_decide_eq_false (nT h))) (fun h => of_decide_eq_false (nT h))
    refine go_seq fun K13 hK13 => ?_
    refine q_reg [(38, .bool true)] [(8, .bool true)] ((Callable Try.prog 17 ∧ CallOk Try.prog (On w11) 17 [].toArray (.bool true)) ∧ (True) ∧ True) hA H ⟨⟨callable_of, callOk_of fun w hw => by exact awake_any w⟩, trivial, trivial⟩ fun a w14 hA H _ => ?_
    refine hK13 _ _ ?_
    refine go_ret_ ?_
    refine ret_one 8 (.bool true) hA ?_
    exact ans_b' rfl H.below
  · have hhb12 := (⟨(⟨(⟨of_decide_eq_false ((oF ((oF ((oF hb12).1)).1)).1), of_decide_eq_false ((oF ((oF ((oF hb12).1)).1)).2)⟩ : _ ∧ _), of_decide_eq_true (nF ((oF ((oF hb12).1)).2))⟩ : _ ∧ _), of_decide_eq_true (nF ((oF hb12).2))⟩ : _ ∧ _)
    refine go_skip ?_
    refine hK9 _ _ ?_
    refine go_seq fun K15 hK15 => ?_
    have hz := hhb12
    have hpl := parts_law (e := x) (show partE n E A B = 0 by omega) (show partE n E C D = 0 by omega)
    have hsm := small_1 (n := n) (E := E) (V := A) (L := B) (by omega)
    have hsm2 := small_1 (n := n) (E := E) (V := C) (L := D) (by omega)
    have hdl := dropL_len B x
    have hml1 := mergeL_len A C 2; have hml2 := mergeL_len B D 2; have hml3 := mergeL_len A C 1; have hml4 := mergeL_len B D 1
    have hwh : wholeE n E = (upto n, upto (E.length : Int)) := wholeE_ok (part_iff.1 (show partE n E A B = 0 by omega)).1
    have hr0 := rightE_0 (part_iff.1 (show partE n E A B = 0 by omega)).1
    have hu1 := upto_len n; have hu2 := upto_len (E.length : Int)
    have H0 := H
    have hM0 := H0.keeps none (.inl rfl)
    refine region_mix (But w11 none) [0, 1, 2, 3, 4, 5, 6, 7, 8, 9, 10, 11, 12, 13] 15 ?_
    replace H := H.drawn; have hD := But.drew w11 none
    generalize ({ w11 with drawn := w11.drawn + 1 } : World) = w16 at H hD ⊢
    refine m_take (n := 9) [0, 1, 3, 4, 6, 7] #[true, true, false, true, true, false, true, true, false, false, false, false, false, false, false] [(39, .agg #[va, ea]), (40, .agg #[vb, eb]), (42, .agg #[va, ea]), (43, .agg #[vb, eb]), (45, .agg #[va, ea])] [(3, .int .i64 x), (4, .pointer (some ⟨b2, 0, none⟩)), (5, .pointer (some ⟨b4, 0, none⟩)), (6, .pointer (some ⟨b6, 0, none⟩)), (39, .agg #[va, ea]), (40, .agg #[vb, eb]), (42, .agg #[va, ea]), (43, .agg #[vb, eb]), (45, .agg #[va, ea]), (46, .int .i64 x)] (((Try.prog.info? 29).isSome = true ∧ RowOk (But w11 none) b4 (0) (Try.prog.cellsOf 29) #[va, ea]) ∧ ((Try.prog.info? 29).isSome = true ∧ RowOk (But w11 none) b6 (0) (Try.prog.cellsOf 29) #[vb, eb]) ∧ ((Try.prog.info? 29).isSome = true ∧ RowOk (But w11 none) b4 (0) (Try.prog.cellsOf 29) #[va, ea]) ∧ ((Try.prog.info? 29).isSome = true ∧ RowOk (But w11 none) b6 (0) (Try.prog.cellsOf 29) #[vb, eb]) ∧ ((Try.prog.info? 29).isSome = true ∧ RowOk (But w11 none) b4 (0) (Try.prog.cellsOf 29) #[va, ea]) ∧ (True) ∧ True) hA hD ⟨⟨by kernel_rfl, by exact box_rowC (box_atC H0 none 1 rfl (fun e => by cases e)) 0 2⟩, ⟨by kernel_rfl, by exact box_rowC (box_atC H0 none 0 rfl (fun e => by cases e)) 0 2⟩, ⟨by kernel_rfl, by exact box_rowC (box_atC H0 none 1 rfl (fun e => by cases e)) 0 2⟩, ⟨by kernel_rfl, by exact box_rowC (box_atC H0 none 0 rfl (fun e => by cases e)) 0 2⟩, ⟨by kernel_rfl, by exact box_rowC (box_atC H0 none 1 rfl (fun e => by cases e)) 0 2⟩, trivial, trivial⟩ fun a hA => ?_
    refine mix_gen fun M hM => ?_
    have hM235 : ∀ (a : Act) (w269 : World) (S : Stab) (v17a : Value) (v17b : Value) (v28a : Value) (v28b : Value) (v66a : Value) (v66b : Value) (b125 : Nat) (hge_b125 : w11.heap.size ≤ b125) (b184 : Nat) (hge_b184 : w11.heap.size ≤ b184) (b222 : Nat) (hge_b222 : w11.heap.size ≤ b222), EnvOk 107 a (keepEnv [(3, .int .i64 x), (4, .pointer (some ⟨b2, 0, none⟩)), (5, .pointer (some ⟨b4, 0, none⟩)), (6, .pointer (some ⟨b6, 0, none⟩)), (9, .pointer (some ⟨b125, 0, none⟩)), (10, .pointer (some ⟨b184, 0, none⟩)), (11, .pointer (some ⟨b222, 0, none⟩)), (47, .agg #[v66a, v66b])]) → Fr (org w) w269 S [.box b222 29 [(.slice none 0 0), (.slice none 0 0)], .box b184 29 [v28a, v28b], .box b125 29 [v17a, v17b], .ro v66b (dropL B x), .ro v66a A, .ro v28b (mergeL B D 1), .ro v28a (mergeL A C 1), .ro v17b (mergeL B D 2), .ro v17a (mergeL A C 2), .box b6 29 [vb, eb], .box b4 29 [va, ea], .box b2 24 [.int .i64 n, ve]] → But w11 none w269 → M 1 #[true, true, true, true, true, true, true, true, true, true, true, true, true, true, false] a w269 := by
      intro a w269 S v17a v17b v28a v28b v66a v66b b125 hge_b125 b184 hge_b184 b222 hge_b222 hA H hD
      refine (hM _ _ _ _).2 ?_
      refine m_one 14 ?_; refine q_store 14 29 (.tmp 11) (.tmp 47) 0 b222 (0) 29 [(.slice none 0 0), (.slice none 0 0)] [v66a, v66b] [v66a, v66b] (.agg #[v66a, v66b]) [(3, .int .i64 x), (4, .pointer (some ⟨b2, 0, none⟩)), (5, .pointer (some ⟨b4, 0, none⟩)), (6, .pointer (some ⟨b6, 0, none⟩)), (9, .pointer (some ⟨b125, 0, none⟩)), (10, .pointer (some ⟨b184, 0, none⟩)), (11, .pointer (some ⟨b222, 0, none⟩))] hA H rfl rfl (Nat.le_of_ble_eq_true (by kernel_rfl)) rfl (fun v hv => by simp only [List.mem_cons, List.not_mem_nil, or_false] at hv; rcases hv with rfl | rfl; exact (rd_one (H.get 4 rfl)); exact (rd_one (H.get 3 rfl))) fun a w270 H hA hG => ?_
      replace H : Fr _ _ _ [.box b222 29 [v66a, v66b], .box b184 29 [v28a, v28b], .box b125 29 [v17a, v17b], .ro v66b (dropL B x), .ro v66a A, .ro v28b (mergeL B D 1), .ro v28a (mergeL A C 1), .ro v17b (mergeL B D 2), .ro v17a (mergeL A C 2), .box b6 29 [vb, eb], .box b4 29 [va, ea], .box b2 24 [.int .i64 n, ve]] := H
      refine ⟨fun h => absurd h (by decide), ?_⟩
      refine m_end ?_
      refine hK15 _ _ ?_
      refine go_seq fun K271 hK271 => ?_
      refine go_seq fun K272 hK272 => ?_
      refine q_reg [(48, .agg #[.int .i64 n, ve]), (49, .agg #[v17a, v17b]), (50, .int .i64 (partE n E (mergeL A C 2) (mergeL B D 2))), (53, .agg #[.int .i64 n, ve]), (54, .agg #[v28a, v28b]), (55, .int .i64 (partE n E (mergeL A C 1) (mergeL B D 1))), (59, .agg #[.int .i64 n, ve]), (60, .agg #[v66a, v66b]), (61, .int .i64 (partE n E A (dropL B x)))] [(3, .int .i64 x), (4, .pointer (some ⟨b2, 0, none⟩)), (5, .pointer (some ⟨b4, 0, none⟩)), (6, .pointer (some ⟨b6, 0, none⟩)), (9, .pointer (some ⟨b125, 0, none⟩)), (10, .pointer (some ⟨b184, 0, none⟩)), (11, .pointer (some ⟨b222, 0, none⟩)), (63, .bool (((!decide (partE n E (mergeL A C 2) (mergeL B D 2) = 0)) || (!decide (partE n E (mergeL A C 1) (mergeL B D 1) = 0))) || (!decide (partE n E A (dropL B x) = 0))))] (((Try.prog.info? 24).isSome = true ∧ RowOk (On w270) b2 (0) (Try.prog.cellsOf 24) #[.int .i64 n, ve]) ∧ ((Try.prog.info? 29).isSome = true ∧ RowOk (On w270) b125 (0) (Try.prog.cellsOf 29) #[v17a, v17b]) ∧ (Callable Try.prog 31 ∧ CallOk Try.prog (On w270) 31 [.agg #[.int .i64 n, ve], .agg #[v17a, v17b]].toArray (.int .i64 (partE n E (mergeL A C 2) (mergeL B D 2)))) ∧ (True) ∧ (True) ∧ ((!decide (partE n E (mergeL A C 2) (mergeL B D 2) = 0)) = false → (Try.prog.info? 24).isSome = true ∧ RowOk (On w270) b2 (0) (Try.prog.cellsOf 24) #[.int .i64 n, ve]) ∧ ((!decide (partE n E (mergeL A C 2) (mergeL B D 2) = 0)) = false → (Try.prog.info? 29).isSome = true ∧ RowOk (On w270) b184 (0) (Try.prog.cellsOf 29) #[v28a, v28b]) ∧ ((!decide (partE n E (mergeL A C 2) (mergeL B D 2) = 0)) = false → Callable Try.prog 31 ∧ CallOk Try.prog (On w270) 31 [.agg #[.int .i64 n, ve], .agg #[v28a, v28b]].toArray (.int .i64 (partE n E (mergeL A C 1) (mergeL B D 1)))) ∧ ((!decide (partE n E (mergeL A C 2) (mergeL B D 2) = 0)) = false → True) ∧ (True) ∧ (True) ∧ (((!decide (partE n E (mergeL A C 2) (mergeL B D 2) = 0)) || (!decide (partE n E (mergeL A C 1) (mergeL B D 1) = 0))) = false → (Try.prog.info? 24).isSome = true ∧ RowOk (On w270) b2 (0) (Try.prog.cellsOf 24) #[.int .i64 n, ve]) ∧ (((!decide (partE n E (mergeL A C 2) (mergeL B D 2) = 0)) || (!decide (partE n E (mergeL A C 1) (mergeL B D 1) = 0))) = false → (Try.prog.info? 29).isSome = true ∧ RowOk (On w270) b222 (0) (Try.prog.cellsOf 29) #[v66a, v66b]) ∧ (((!decide (partE n E (mergeL A C 2) (mergeL B D 2) = 0)) || (!decide (partE n E (mergeL A C 1) (mergeL B D 1) = 0))) = false → Callable Try.prog 31 ∧ CallOk Try.prog (On w270) 31 [.agg #[.int .i64 n, ve], .agg #[v66a, v66b]].toArray (.int .i64 (partE n E A (dropL B x)))) ∧ (((!decide (partE n E (mergeL A C 2) (mergeL B D 2) = 0)) || (!decide (partE n E (mergeL A C 1) (mergeL B D 1) = 0))) = false → True) ∧ (True) ∧ True) hA H ⟨⟨by kernel_rfl, by exact box_row H 11 rfl 0 2⟩, ⟨by kernel_rfl, by exact box_row H 2 rfl 0 2⟩, ⟨callable_of, callOk_of fun w hw => by exact rightPart_any n ve E v17a v17b (mergeL A C 2) (mergeL B D 2) w (by omega) (((H.on hw).arg hE)) (((H.on hw).get 8 rfl)) (((H.on hw).get 7 rfl))⟩, trivial, trivial, fun _ => ⟨by kernel_rfl, by exact box_row H 11 rfl 0 2⟩, fun _ => ⟨by kernel_rfl, by exact box_row H 1 rfl 0 2⟩, fun hg0 => by replace hg0 := of_decide_eq_true (nF hg0); exact ⟨callable_of, callOk_of fun w hw => by exact rightPart_any n ve E v28a v28b (mergeL A C 1) (mergeL B D 1) w (by omega) (((H.on hw).arg hE)) (((H.on hw).get 6 rfl)) (((H.on hw).get 5 rfl))⟩, fun _ => trivial, trivial, trivial, fun _ => ⟨by kernel_rfl, by exact box_row H 11 rfl 0 2⟩, fun _ => ⟨by kernel_rfl, by exact box_row H 0 rfl 0 2⟩, fun hg0 => by replace hg0 := (⟨of_decide_eq_true (nF ((oF hg0).1)), of_decide_eq_true (nF ((oF hg0).2))⟩ : _ ∧ _); exact ⟨callable_of, callOk_of fun w hw => by exact rightPart_any n ve E v66a v66b A (dropL B x) w (by omega) (((H.on hw).arg hE)) (((H.on hw).get 4 rfl)) (((H.on hw).get 3 rfl))⟩, fun _ => trivial, trivial, trivial⟩ fun a w273 hA H _ => ?_
      refine hK272 _ _ ?_
      refine go_cond hA (.tmp 63) (((!decide (partE n E (mergeL A C 2) (mergeL B D 2) = 0)) || (!decide (partE n E (mergeL A C 1) (mergeL B D 1) = 0))) || (!decide (partE n E A (dropL B x) = 0))) (fun hb274 => ?_) (fun hb274 => ?_)
      · have hhb274 := (oT hb274).imp (fun h => (oT h).imp (fun h => of_decide_eq_false (nT h)) (fun h => of_decide_eq_false (nT h))) (fun h => of_decide_eq_false (nT h))
        refine go_seq fun K275 hK275 => ?_
        refine q_reg [] [(8, .bool false)] ((True) ∧ True) hA H ⟨trivial, trivial⟩ fun a w276 hA H _ => ?_
        refine hK275 _ _ ?_
        refine go_ret_ ?_
        refine ret_one 8 (.bool false) hA ?_
        exact absurd hhb274 (by obtain ⟨z1, z2, z3, _⟩ := hpl; omega)
      · have hhb274 := (⟨(⟨of_decide_eq_true (nF ((oF ((oF hb274).1)).1)), of_decide_eq_true (nF ((oF ((oF hb274).1)).2))⟩ : _ ∧ _), of_decide_eq_true (nF ((oF hb274).2))⟩ : _ ∧ _)
        refine go_skip ?_
        refine hK271 _ _ ?_
        refine go_seq fun K277 hK277 => ?_
        have H0 := H
        have hM0 := H0.keeps none (.inl rfl)
        refine region_mix (But w273 none) [0, 1, 2, 3, 4, 5, 6, 7, 8, 9, 10, 11, 12, 13, 14, 15, 16, 17, 18, 19, 20, 21, 22, 23, 24, 25, 26, 27, 28, 29, 30, 31, 32, 33, 34, 35, 36, 37, 38, 39, 40, 41, 42] 44 ?_
        replace H := H.drawn; have hD := But.drew w273 none
        generalize ({ w273 with drawn := w273.drawn + 1 } : World) = w278 at H hD ⊢
        refine m_take (n := 42) [0, 1] #[true, true, false, false, false, false, false, false, false, false, false, false, false, false, false, false, false, false, false, false, false, false, false, false, false, false, false, false, false, false, false, false, false, false, false, false, false, false, false, false, false, false, false, false] [(64, .agg #[v17a, v17b]), (65, .agg #[va, ea])] [(3, .int .i64 x), (4, .pointer (some ⟨b2, 0, none⟩)), (5, .pointer (some ⟨b4, 0, none⟩)), (6, .pointer (some ⟨b6, 0, none⟩)), (9, .pointer (some ⟨b125, 0, none⟩)), (10, .pointer (some ⟨b184, 0, none⟩)), (11, .pointer (some ⟨b222, 0, none⟩)), (64, .agg #[v17a, v17b]), (65, .agg #[va, ea])] (((Try.prog.info? 29).isSome = true ∧ RowOk (But w273 none) b125 (0) (Try.prog.cellsOf 29) #[v17a, v17b]) ∧ ((Try.prog.info? 29).isSome = true ∧ RowOk (But w273 none) b4 (0) (Try.prog.cellsOf 29) #[va, ea]) ∧ True) hA hD ⟨⟨by kernel_rfl, by exact box_rowC (box_atC H0 none 2 rfl (fun e => by cases e)) 0 2⟩, ⟨by kernel_rfl, by exact box_rowC (box_atC H0 none 10 rfl (fun e => by cases e)) 0 2⟩, trivial⟩ fun a hA => ?_
        refine m_one 2 ?_; refine q_one 2 [(66, .bool (decide (allP (mergeL A C 2) A) && decide (allP (mergeL B D 2) B)))] [(3, .int .i64 x), (4, .pointer (some ⟨b2, 0, none⟩)), (5, .pointer (some ⟨b4, 0, none⟩)), (6, .pointer (some ⟨b6, 0, none⟩)), (9, .pointer (some ⟨b125, 0, none⟩)), (10, .pointer (some ⟨b184, 0, none⟩)), (11, .pointer (some ⟨b222, 0, none⟩)), (66, .bool (decide (allP (mergeL A C 2) A) && decide (allP (mergeL B D 2) B)))] ((Callable Try.prog 41 ∧ CallOk Try.prog (On w278) 41 [.agg #[v17a, v17b], .agg #[va, ea]].toArray (.bool (decide (allP (mergeL A C 2) A) && decide (allP (mergeL B D 2) B)))) ∧ True) hA H ⟨⟨callable_of, callOk_of fun w hw => by exact within_any v17a v17b va ea (mergeL A C 2) (mergeL B D 2) A B w (((H.on hw).get 8 rfl)) (((H.on hw).get 7 rfl)) (((H.on hw).arg gA)) (((H.on hw).arg gB)) (by omega) (by omega)⟩, trivial⟩ fun a w279 H hA hG => ?_
        replace hD := hD.below hG
        refine ⟨fun _ => hD, ?_⟩
        refine m_takeE (n := 38) [] [3, 4, 5] #[true, true, true, true, true, true, false, false, false, false, false, false, false, false, false, false, false, false, false, false, false, false, false, false, false, false, false, false, false, false, false, false, false, false, false, false, false, false, false, false, false, false, false, false] [(68, .agg #[v17a, v17b]), (69, .agg #[vb, eb])] [⟨3, [], .int .i64 x⟩, ⟨4, [], .pointer (some ⟨b2, 0, none⟩)⟩, ⟨5, [], .pointer (some ⟨b4, 0, none⟩)⟩, ⟨6, [], .pointer (some ⟨b6, 0, none⟩)⟩, ⟨9, [], .pointer (some ⟨b125, 0, none⟩)⟩, ⟨10, [], .pointer (some ⟨b184, 0, none⟩)⟩, ⟨11, [], .pointer (some ⟨b222, 0, none⟩)⟩, ⟨67, [], .bool (decide (allP (mergeL A C 2) A) && decide (allP (mergeL B D 2) B))⟩, ⟨68, [(67, true)], .agg #[v17a, v17b]⟩, ⟨69, [(67, true)], .agg #[vb, eb]⟩] (((True) ∧ (True)) ∧ ((True) ∧ ((decide (allP (mergeL A C 2) A) && decide (allP (mergeL B D 2) B)) = true → (Try.prog.info? 29).isSome = true ∧ RowOk (But w273 none) b125 (0) (Try.prog.cellsOf 29) #[v17a, v17b])) ∧ ((True) ∧ ((decide (allP (mergeL A C 2) A) && decide (allP (mergeL B D 2) B)) = true → (Try.prog.info? 29).isSome = true ∧ RowOk (But w273 none) b6 (0) (Try.prog.cellsOf 29) #[vb, eb])) ∧ True) hA hD ⟨⟨trivial, trivial⟩, ⟨trivial, fun _ => ⟨by kernel_rfl, by exact box_rowC (box_atC H0 none 2 rfl (fun e => by cases e)) 0 2⟩⟩, ⟨trivial, fun _ => ⟨by kernel_rfl, by exact box_rowC (box_atC H0 none 9 rfl (fun e => by cases e)) 0 2⟩⟩, trivial⟩ fun a hA => ?_
        refine m_one 6 ?_; refine q_oneE [] 6 [(70, .bool (decide (allP (mergeL A C 2) C) && decide (allP (mergeL B D 2) D)))] [⟨3, [], .int .i64 x⟩, ⟨4, [], .pointer (some ⟨b2, 0, none⟩)⟩, ⟨5, [], .pointer (some ⟨b4, 0, none⟩)⟩, ⟨6, [], .pointer (some ⟨b6, 0, none⟩)⟩, ⟨9, [], .pointer (some ⟨b125, 0, none⟩)⟩, ⟨10, [], .pointer (some ⟨b184, 0, none⟩)⟩, ⟨11, [], .pointer (some ⟨b222, 0, none⟩)⟩, ⟨67, [], .bool (decide (allP (mergeL A C 2) A) && decide (allP (mergeL B D 2) B))⟩, ⟨70, [(67, true)], .bool (decide (allP (mergeL A C 2) C) && decide (allP (mergeL B D 2) D))⟩] (((True) ∧ ((decide (allP (mergeL A C 2) A) && decide (allP (mergeL B D 2) B)) = true → Callable Try.prog 41 ∧ CallOk Try.prog (On w279) 41 [.agg #[v17a, v17b], .agg #[vb, eb]].toArray (.bool (decide (allP (mergeL A C 2) C) && decide (allP (mergeL B D 2) D))))) ∧ True) hA H ⟨⟨trivial, fun hg0 => by replace hg0 := hg0; exact ⟨callable_of, callOk_of fun w hw => by exact within_any v17a v17b vb eb (mergeL A C 2) (mergeL B D 2) C D w (((H.on hw).get 8 rfl)) (((H.on hw).get 7 rfl)) (((H.on hw).arg gC)) (((H.on hw).arg gD)) (by omega) (by omega)⟩⟩, trivial⟩ fun a w280 H hA hG => ?_
        replace hD := hD.below hG
        refine ⟨fun _ => hD, ?_⟩
        refine m_takeE (n := 33) [] [7, 8, 9, 10] #[true, true, true, true, true, true, true, true, true, true, true, false, false, false, false, false, false, false, false, false, false, false, false, false, false, false, false, false, false, false, false, false, false, false, false, false, false, false, false, false, false, false, false, false] [(73, .agg #[va, ea]), (74, .agg #[v28a, v28b])] [⟨3, [], .int .i64 x⟩, ⟨4, [], .pointer (some ⟨b2, 0, none⟩)⟩, ⟨5, [], .pointer (some ⟨b4, 0, none⟩)⟩, ⟨6, [], .pointer (some ⟨b6, 0, none⟩)⟩, ⟨9, [], .pointer (some ⟨b125, 0, none⟩)⟩, ⟨10, [], .pointer (some ⟨b184, 0, none⟩)⟩, ⟨11, [], .pointer (some ⟨b222, 0, none⟩)⟩, ⟨72, [], .bool ((decide (allP (mergeL A C 2) A) && decide (allP (mergeL B D 2) B)) && (decide (allP (mergeL A C 2) C) && decide (allP (mergeL B D 2) D)))⟩, ⟨73, [(72, true)], .agg #[va, ea]⟩, ⟨74, [(72, true)], .agg #[v28a, v28b]⟩] (((True) ∧ (True)) ∧ ((True) ∧ (True)) ∧ ((True) ∧ (((decide (allP (mergeL A C 2) A) && decide (allP (mergeL B D 2) B)) && (decide (allP (mergeL A C 2) C) && decide (allP (mergeL B D 2) D))) = true → (Try.prog.info? 29).isSome = true ∧ RowOk (But w273 none) b4 (0) (Try.prog.cellsOf 29) #[va, ea])) ∧ ((True) ∧ (((decide (allP (mergeL A C 2) A) && decide (allP (mergeL B D 2) B)) && (decide (allP (mergeL A C 2) C) && decide (allP (mergeL B D 2) D))) = true → (Try.prog.info? 29).isSome = true ∧ RowOk (But w273 none) b184 (0) (Try.prog.cellsOf 29) #[v28a, v28b])) ∧ True) hA hD ⟨⟨trivial, trivial⟩, ⟨trivial, trivial⟩, ⟨trivial, fun _ => ⟨by kernel_rfl, by exact box_rowC (box_atC H0 none 10 rfl (fun e => by cases e)) 0 2⟩⟩, ⟨trivial, fun _ => ⟨by kernel_rfl, by exact box_rowC (box_atC H0 none 1 rfl (fun e => by cases e)) 0 2⟩⟩, trivial⟩ fun a hA => ?_
        refine m_one 11 ?_; refine q_oneE [] 11 [(75, .bool (decide (allP A (mergeL A C 1)) && decide (allP B (mergeL B D 1))))] [⟨3, [], .int .i64 x⟩, ⟨4, [], .pointer (some ⟨b2, 0, none⟩)⟩, ⟨5, [], .pointer (some ⟨b4, 0, none⟩)⟩, ⟨6, [], .pointer (some ⟨b6, 0, none⟩)⟩, ⟨9, [], .pointer (some ⟨b125, 0, none⟩)⟩, ⟨10, [], .pointer (some ⟨b184, 0, none⟩)⟩, ⟨11, [], .pointer (some ⟨b222, 0, none⟩)⟩, ⟨72, [], .bool ((decide (allP (mergeL A C 2) A) && decide (allP (mergeL B D 2) B)) && (decide (allP (mergeL A C 2) C) && decide (allP (mergeL B D 2) D)))⟩, ⟨75, [(72, true)], .bool (decide (allP A (mergeL A C 1)) && decide (allP B (mergeL B D 1)))⟩] (((True) ∧ (((decide (allP (mergeL A C 2) A) && decide (allP (mergeL B D 2) B)) && (decide (allP (mergeL A C 2) C) && decide (allP (mergeL B D 2) D))) = true → Callable Try.prog 41 ∧ CallOk Try.prog (On w280) 41 [.agg #[va, ea], .agg #[v28a, v28b]].toArray (.bool (decide (allP A (mergeL A C 1)) && decide (allP B (mergeL B D 1)))))) ∧ True) hA H ⟨⟨trivial, fun hg0 => by replace hg0 := (⟨(aT hg0).1, (aT hg0).2⟩ : _ ∧ _); exact ⟨callable_of, callOk_of fun w hw => by exact within_any va ea v28a v28b A B (mergeL A C 1) (mergeL B D 1) w (((H.on hw).arg gA)) (((H.on hw).arg gB)) (((H.on hw).get 6 rfl)) (((H.on hw).get 5 rfl)) (by omega) (by omega)⟩⟩, trivial⟩ fun a w281 H hA hG => ?_
        replace hD := hD.below hG
        refine ⟨fun _ => hD, ?_⟩
        refine m_takeE (n := 28) [] [12, 13, 14, 15] #[true, true, true, true, true, true, true, true, true, true, true, true, true, true, true, true, false, false, false, false, false, false, false, false, false, false, false, false, false, false, false, false, false, false, false, false, false, false, false, false, false, false, false, false] [(78, .agg #[vb, eb]), (79, .agg #[v28a, v28b])] [⟨3, [], .int .i64 x⟩, ⟨4, [], .pointer (some ⟨b2, 0, none⟩)⟩, ⟨5, [], .pointer (some ⟨b4, 0, none⟩)⟩, ⟨9, [], .pointer (some ⟨b125, 0, none⟩)⟩, ⟨10, [], .pointer (some ⟨b184, 0, none⟩)⟩, ⟨11, [], .pointer (some ⟨b222, 0, none⟩)⟩, ⟨77, [], .bool (((decide (allP (mergeL A C 2) A) && decide (allP (mergeL B D 2) B)) && (decide (allP (mergeL A C 2) C) && decide (allP (mergeL B D 2) D))) && (decide (allP A (mergeL A C 1)) && decide (allP B (mergeL B D 1))))⟩, ⟨78, [(77, true)], .agg #[vb, eb]⟩, ⟨79, [(77, true)], .agg #[v28a, v28b]⟩] (((True) ∧ (True)) ∧ ((True) ∧ (True)) ∧ ((True) ∧ ((((decide (allP (mergeL A C 2) A) && decide (allP (mergeL B D 2) B)) && (decide (allP (mergeL A C 2) C) && decide (allP (mergeL B D 2) D))) && (decide (allP A (mergeL A C 1)) && decide (allP B (mergeL B D 1)))) = true → (Try.prog.info? 29).isSome = true ∧ RowOk (But w273 none) b6 (0) (Try.prog.cellsOf 29) #[vb, eb])) ∧ ((True) ∧ ((((decide (allP (mergeL A C 2) A) && decide (allP (mergeL B D 2) B)) && (decide (allP (mergeL A C 2) C) && decide (allP (mergeL B D 2) D))) && (decide (allP A (mergeL A C 1)) && decide (allP B (mergeL B D 1)))) = true → (Try.prog.info? 29).isSome = true ∧ RowOk (But w273 none) b184 (0) (Try.prog.cellsOf 29) #[v28a, v28b])) ∧ True) hA hD ⟨⟨trivial, trivial⟩, ⟨trivial, trivial⟩, ⟨trivial, fun _ => ⟨by kernel_rfl, by exact box_rowC (box_atC H0 none 9 rfl (fun e => by cases e)) 0 2⟩⟩, ⟨trivial, fun _ => ⟨by kernel_rfl, by exact box_rowC (box_atC H0 none 1 rfl (fun e => by cases e)) 0 2⟩⟩, trivial⟩ fun a hA => ?_
        refine m_one 16 ?_; refine q_oneE [] 16 [(80, .bool (decide (allP C (mergeL A C 1)) && decide (allP D (mergeL B D 1))))] [⟨3, [], .int .i64 x⟩, ⟨4, [], .pointer (some ⟨b2, 0, none⟩)⟩, ⟨5, [], .pointer (some ⟨b4, 0, none⟩)⟩, ⟨9, [], .pointer (some ⟨b125, 0, none⟩)⟩, ⟨10, [], .pointer (some ⟨b184, 0, none⟩)⟩, ⟨11, [], .pointer (some ⟨b222, 0, none⟩)⟩, ⟨77, [], .bool (((decide (allP (mergeL A C 2) A) && decide (allP (mergeL B D 2) B)) && (decide (allP (mergeL A C 2) C) && decide (allP (mergeL B D 2) D))) && (decide (allP A (mergeL A C 1)) && decide (allP B (mergeL B D 1))))⟩, ⟨80, [(77, true)], .bool (decide (allP C (mergeL A C 1)) && decide (allP D (mergeL B D 1)))⟩] (((True) ∧ ((((decide (allP (mergeL A C 2) A) && decide (allP (mergeL B D 2) B)) && (decide (allP (mergeL A C 2) C) && decide (allP (mergeL B D 2) D))) && (decide (allP A (mergeL A C 1)) && decide (allP B (mergeL B D 1)))) = true → Callable Try.prog 41 ∧ CallOk Try.prog (On w281) 41 [.agg #[vb, eb], .agg #[v28a, v28b]].toArray (.bool (decide (allP C (mergeL A C 1)) && decide (allP D (mergeL B D 1)))))) ∧ True) hA H ⟨⟨trivial, fun hg0 => by replace hg0 := (⟨(⟨(aT ((aT hg0).1)).1, (aT ((aT hg0).1)).2⟩ : _ ∧ _), (aT hg0).2⟩ : _ ∧ _); exact ⟨callable_of, callOk_of fun w hw => by exact within_any vb eb v28a v28b C D (mergeL A C 1) (mergeL B D 1) w (((H.on hw).arg gC)) (((H.on hw).arg gD)) (((H.on hw).get 6 rfl)) (((H.on hw).get 5 rfl)) (by omega) (by omega)⟩⟩, trivial⟩ fun a w282 H hA hG => ?_
        replace hD := hD.below hG
        refine ⟨fun _ => hD, ?_⟩
        refine m_takeE (n := 23) [] [17, 18, 19, 20] #[true, true, true, true, true, true, true, true, true, true, true, true, true, true, true, true, true, true, true, true, true, false, false, false, false, false, false, false, false, false, false, false, false, false, false, false, false, false, false, false, false, false, false, false] [(83, .agg #[v66a, v66b]), (84, .agg #[va, ea])] [⟨3, [], .int .i64 x⟩, ⟨4, [], .pointer (some ⟨b2, 0, none⟩)⟩, ⟨5, [], .pointer (some ⟨b4, 0, none⟩)⟩, ⟨9, [], .pointer (some ⟨b125, 0, none⟩)⟩, ⟨10, [], .pointer (some ⟨b184, 0, none⟩)⟩, ⟨11, [], .pointer (some ⟨b222, 0, none⟩)⟩, ⟨82, [], .bool ((((decide (allP (mergeL A C 2) A) && decide (allP (mergeL B D 2) B)) && (decide (allP (mergeL A C 2) C) && decide (allP (mergeL B D 2) D))) && (decide (allP A (mergeL A C 1)) && decide (allP B (mergeL B D 1)))) && (decide (allP C (mergeL A C 1)) && decide (allP D (mergeL B D 1))))⟩, ⟨83, [(82, true)], .agg #[v66a, v66b]⟩, ⟨84, [(82, true)], .agg #[va, ea]⟩] (((True) ∧ (True)) ∧ ((True) ∧ (True)) ∧ ((True) ∧ (((((decide (allP (mergeL A C 2) A) && decide (allP (mergeL B D 2) B)) && (decide (allP (mergeL A C 2) C) && decide (allP (mergeL B D 2) D))) && (decide (allP A (mergeL A C 1)) && decide (allP B (mergeL B D 1)))) && (decide (allP C (mergeL A C 1)) && decide (allP D (mergeL B D 1)))) = true → (Try.prog.info? 29).isSome = true ∧ RowOk (But w273 none) b222 (0) (Try.prog.cellsOf 29) #[v66a, v66b])) ∧ ((True) ∧ (((((decide (allP (mergeL A C 2) A) && decide (allP (mergeL B D 2) B)) && (decide (allP (mergeL A C 2) C) && decide (allP (mergeL B D 2) D))) && (decide (allP A (mergeL A C 1)) && decide (allP B (mergeL B D 1)))) && (decide (allP C (mergeL A C 1)) && decide (allP D (mergeL B D 1)))) = true → (Try.prog.info? 29).isSome = true ∧ RowOk (But w273 none) b4 (0) (Try.prog.cellsOf 29) #[va, ea])) ∧ True) hA hD ⟨⟨trivial, trivial⟩, ⟨trivial, trivial⟩, ⟨trivial, fun _ => ⟨by kernel_rfl, by exact box_rowC (box_atC H0 none 0 rfl (fun e => by cases e)) 0 2⟩⟩, ⟨trivial, fun _ => ⟨by kernel_rfl, by exact box_rowC (box_atC H0 none 10 rfl (fun e => by cases e)) 0 2⟩⟩, trivial⟩ fun a hA => ?_
        refine m_one 21 ?_; refine q_oneE [] 21 [(85, .bool (decide (allP A A) && decide (allP (dropL B x) B)))] [⟨3, [], .int .i64 x⟩, ⟨4, [], .pointer (some ⟨b2, 0, none⟩)⟩, ⟨5, [], .pointer (some ⟨b4, 0, none⟩)⟩, ⟨9, [], .pointer (some ⟨b125, 0, none⟩)⟩, ⟨10, [], .pointer (some ⟨b184, 0, none⟩)⟩, ⟨11, [], .pointer (some ⟨b222, 0, none⟩)⟩, ⟨82, [], .bool ((((decide (allP (mergeL A C 2) A) && decide (allP (mergeL B D 2) B)) && (decide (allP (mergeL A C 2) C) && decide (allP (mergeL B D 2) D))) && (decide (allP A (mergeL A C 1)) && decide (allP B (mergeL B D 1)))) && (decide (allP C (mergeL A C 1)) && decide (allP D (mergeL B D 1))))⟩, ⟨85, [(82, true)], .bool (decide (allP A A) && decide (allP (dropL B x) B))⟩] (((True) ∧ (((((decide (allP (mergeL A C 2) A) && decide (allP (mergeL B D 2) B)) && (decide (allP (mergeL A C 2) C) && decide (allP (mergeL B D 2) D))) && (decide (allP A (mergeL A C 1)) && decide (allP B (mergeL B D 1)))) && (decide (allP C (mergeL A C 1)) && decide (allP D (mergeL B D 1)))) = true → Callable Try.prog 41 ∧ CallOk Try.prog (On w282) 41 [.agg #[v66a, v66b], .agg #[va, ea]].toArray (.bool (decide (allP A A) && decide (allP (dropL B x) B))))) ∧ True) hA H ⟨⟨trivial, fun hg0 => by replace hg0 := (⟨(⟨(⟨(aT ((aT ((aT hg0).1)).1)).1, (aT ((aT ((aT hg0).1)).1)).2⟩ : _ ∧ _), (aT ((aT hg0).1)).2⟩ : _ ∧ _), (aT hg0).2⟩ : _ ∧ _); exact ⟨callable_of, callOk_of fun w hw => by exact within_any v66a v66b va ea A (dropL B x) A B w (((H.on hw).get 4 rfl)) (((H.on hw).get 3 rfl)) (((H.on hw).arg gA)) (((H.on hw).arg gB)) (by omega) (by omega)⟩⟩, trivial⟩ fun a w283 H hA hG => ?_
        replace hD := hD.below hG
        refine ⟨fun _ => hD, ?_⟩
        refine m_takeE (n := 17) [] [22, 23, 24, 25, 26] #[true, true, true, true, true, true, true, true, true, true, true, true, true, true, true, true, true, true, true, true, true, true, true, true, true, true, true, false, false, false, false, false, false, false, false, false, false, false, false, false, false, false, false, false] [(89, v66b)] [⟨4, [], .pointer (some ⟨b2, 0, none⟩)⟩, ⟨5, [], .pointer (some ⟨b4, 0, none⟩)⟩, ⟨9, [], .pointer (some ⟨b125, 0, none⟩)⟩, ⟨10, [], .pointer (some ⟨b184, 0, none⟩)⟩, ⟨87, [], .bool (((((decide (allP (mergeL A C 2) A) && decide (allP (mergeL B D 2) B)) && (decide (allP (mergeL A C 2) C) && decide (allP (mergeL B D 2) D))) && (decide (allP A (mergeL A C 1)) && decide (allP B (mergeL B D 1)))) && (decide (allP C (mergeL A C 1)) && decide (allP D (mergeL B D 1)))) && (decide (allP A A) && decide (allP (dropL B x) B)))⟩, ⟨89, [(87, true)], v66b⟩, ⟨90, [(87, true)], .int .i64 x⟩] (((True) ∧ (True)) ∧ ((True) ∧ (True)) ∧ ((True) ∧ ((((((decide (allP (mergeL A C 2) A) && decide (allP (mergeL B D 2) B)) && (decide (allP (mergeL A C 2) C) && decide (allP (mergeL B D 2) D))) && (decide (allP A (mergeL A C 1)) && decide (allP B (mergeL B D 1)))) && (decide (allP C (mergeL A C 1)) && decide (allP D (mergeL B D 1)))) && (decide (allP A A) && decide (allP (dropL B x) B))) = true → 0 < Try.prog.cellsOf 27)) ∧ ((True) ∧ ((((((decide (allP (mergeL A C 2) A) && decide (allP (mergeL B D 2) B)) && (decide (allP (mergeL A C 2) C) && decide (allP (mergeL B D 2) D))) && (decide (allP A (mergeL A C 1)) && decide (allP B (mergeL B D 1)))) && (decide (allP C (mergeL A C 1)) && decide (allP D (mergeL B D 1)))) && (decide (allP A A) && decide (allP (dropL B x) B))) = true → CellOk (But w273 none) b222 (0 + 1) (v66b))) ∧ ((True) ∧ ((((((decide (allP (mergeL A C 2) A) && decide (allP (mergeL B D 2) B)) && (decide (allP (mergeL A C 2) C) && decide (allP (mergeL B D 2) D))) && (decide (allP A (mergeL A C 1)) && decide (allP B (mergeL B D 1)))) && (decide (allP C (mergeL A C 1)) && decide (allP D (mergeL B D 1)))) && (decide (allP A A) && decide (allP (dropL B x) B))) = true → True)) ∧ True) hA hD ⟨⟨trivial, trivial⟩, ⟨trivial, trivial⟩, ⟨trivial, fun _ => by decide +kernel⟩, ⟨trivial, fun _ => by exact box_cellC (box_atC H0 none 0 rfl (fun e => by cases e)) 1⟩, ⟨trivial, fun _ => trivial⟩, trivial⟩ fun a hA => ?_
        refine m_one 27 ?_; refine q_oneE [] 27 [(91, .bool (hasB (dropL B x) x))] [⟨4, [], .pointer (some ⟨b2, 0, none⟩)⟩, ⟨5, [], .pointer (some ⟨b4, 0, none⟩)⟩, ⟨9, [], .pointer (some ⟨b125, 0, none⟩)⟩, ⟨10, [], .pointer (some ⟨b184, 0, none⟩)⟩, ⟨87, [], .bool (((((decide (allP (mergeL A C 2) A) && decide (allP (mergeL B D 2) B)) && (decide (allP (mergeL A C 2) C) && decide (allP (mergeL B D 2) D))) && (decide (allP A (mergeL A C 1)) && decide (allP B (mergeL B D 1)))) && (decide (allP C (mergeL A C 1)) && decide (allP D (mergeL B D 1)))) && (decide (allP A A) && decide (allP (dropL B x) B)))⟩, ⟨91, [(87, true)], .bool (hasB (dropL B x) x)⟩] (((True) ∧ ((((((decide (allP (mergeL A C 2) A) && decide (allP (mergeL B D 2) B)) && (decide (allP (mergeL A C 2) C) && decide (allP (mergeL B D 2) D))) && (decide (allP A (mergeL A C 1)) && decide (allP B (mergeL B D 1)))) && (decide (allP C (mergeL A C 1)) && decide (allP D (mergeL B D 1)))) && (decide (allP A A) && decide (allP (dropL B x) B))) = true → Callable Try.prog 39 ∧ CallOk Try.prog (On w283) 39 [v66b, .int .i64 x].toArray (.bool (hasB (dropL B x) x)))) ∧ True) hA H ⟨⟨trivial, fun hg0 => by replace hg0 := (⟨(⟨(⟨(⟨(aT ((aT ((aT ((aT hg0).1)).1)).1)).1, (aT ((aT ((aT ((aT hg0).1)).1)).1)).2⟩ : _ ∧ _), (aT ((aT ((aT hg0).1)).1)).2⟩ : _ ∧ _), (aT ((aT hg0).1)).2⟩ : _ ∧ _), (aT hg0).2⟩ : _ ∧ _); exact ⟨callable_of, callOk_of fun w hw => by exact has_any v66b (dropL B x) x w (((H.on hw).get 3 rfl)) (by omega)⟩⟩, trivial⟩ fun a w284 H hA hG => ?_
        replace hD := hD.below hG
        refine ⟨fun _ => hD, ?_⟩
        refine m_takeE (n := 13) [] [28, 29, 30] #[true, true, true, true, true, true, true, true, true, true, true, true, true, true, true, true, true, true, true, true, true, true, true, true, true, true, true, true, true, true, true, false, false, false, false, false, false, false, false, false, false, false, false, false] [] [⟨4, [], .pointer (some ⟨b2, 0, none⟩)⟩, ⟨5, [], .pointer (some ⟨b4, 0, none⟩)⟩, ⟨9, [], .pointer (some ⟨b125, 0, none⟩)⟩, ⟨10, [], .pointer (some ⟨b184, 0, none⟩)⟩, ⟨94, [], .bool ((((((decide (allP (mergeL A C 2) A) && decide (allP (mergeL B D 2) B)) && (decide (allP (mergeL A C 2) C) && decide (allP (mergeL B D 2) D))) && (decide (allP A (mergeL A C 1)) && decide (allP B (mergeL B D 1)))) && (decide (allP C (mergeL A C 1)) && decide (allP D (mergeL B D 1)))) && (decide (allP A A) && decide (allP (dropL B x) B))) && (!(hasB (dropL B x) x)))⟩] (((True) ∧ ((((((decide (allP (mergeL A C 2) A) && decide (allP (mergeL B D 2) B)) && (decide (allP (mergeL A C 2) C) && decide (allP (mergeL B D 2) D))) && (decide (allP A (mergeL A C 1)) && decide (allP B (mergeL B D 1)))) && (decide (allP C (mergeL A C 1)) && decide (allP D (mergeL B D 1)))) && (decide (allP A A) && decide (allP (dropL B x) B))) = true → True)) ∧ ((True) ∧ (True)) ∧ ((True) ∧ (True)) ∧ True) hA hD ⟨⟨trivial, fun _ => trivial⟩, ⟨trivial, trivial⟩, ⟨trivial, trivial⟩, trivial⟩ fun a hA => ?_
        have hb285 : ((((((decide (allP (mergeL A C 2) A) && decide (allP (mergeL B D 2) B)) && (decide (allP (mergeL A C 2) C) && decide (allP (mergeL B D 2) D))) && (decide (allP A (mergeL A C 1)) && decide (allP B (mergeL B D 1)))) && (decide (allP C (mergeL A C 1)) && decide (allP D (mergeL B D 1)))) && (decide (allP A A) && decide (allP (dropL B x) B))) && (!(hasB (dropL B x) x))) = true := (by obtain ⟨z1, z2, z3, ⟨z4, z5⟩, ⟨z6, z7⟩, ⟨z8, z9⟩, ⟨y1, y2⟩, ⟨y3, y4⟩, y5, ⟨y6, y7⟩, y8, y9⟩ := hpl; simp [z4, z5, z6, z7, z8, z9, y1, y2, y3, y4, y5, y6, y7, y8, y9])
        have hhb285 := (⟨(⟨(⟨(⟨(⟨(aT ((aT ((aT ((aT ((aT hb285).1)).1)).1)).1)).1, (aT ((aT ((aT ((aT ((aT hb285).1)).1)).1)).1)).2⟩ : _ ∧ _), (aT ((aT ((aT ((aT hb285).1)).1)).1)).2⟩ : _ ∧ _), (aT ((aT ((aT hb285).1)).1)).2⟩ : _ ∧ _), (aT ((aT hb285).1)).2⟩ : _ ∧ _), (nT ((aT hb285).2))⟩ : _ ∧ _)
        refine m_takeE (n := 10) [(94, true)] [31, 32, 34] #[true, true, true, true, true, true, true, true, true, true, true, true, true, true, true, true, true, true, true, true, true, true, true, true, true, true, true, true, true, true, true, true, true, false, true, false, false, false, false, false, false, false, false, false] [(95, .agg #[v17a, v17b]), (96, .agg #[v28a, v28b]), (98, .agg #[v28a, v28b])] [⟨4, [], .pointer (some ⟨b2, 0, none⟩)⟩, ⟨5, [], .pointer (some ⟨b4, 0, none⟩)⟩, ⟨94, [], .bool ((((((decide (allP (mergeL A C 2) A) && decide (allP (mergeL B D 2) B)) && (decide (allP (mergeL A C 2) C) && decide (allP (mergeL B D 2) D))) && (decide (allP A (mergeL A C 1)) && decide (allP B (mergeL B D 1)))) && (decide (allP C (mergeL A C 1)) && decide (allP D (mergeL B D 1)))) && (decide (allP A A) && decide (allP (dropL B x) B))) && (!(hasB (dropL B x) x)))⟩, ⟨95, [], .agg #[v17a, v17b]⟩, ⟨96, [], .agg #[v28a, v28b]⟩, ⟨98, [], .agg #[v28a, v28b]⟩] ((((((((((decide (allP (mergeL A C 2) A) && decide (allP (mergeL B D 2) B)) && (decide (allP (mergeL A C 2) C) && decide (allP (mergeL B D 2) D))) && (decide (allP A (mergeL A C 1)) && decide (allP B (mergeL B D 1)))) && (decide (allP C (mergeL A C 1)) && decide (allP D (mergeL B D 1)))) && (decide (allP A A) && decide (allP (dropL B x) B))) && (!(hasB (dropL B x) x))) = true) ∧ True) ∧ ((Try.prog.info? 29).isSome = true ∧ RowOk (But w273 none) b125 (0) (Try.prog.cellsOf 29) #[v17a, v17b])) ∧ (((((((((decide (allP (mergeL A C 2) A) && decide (allP (mergeL B D 2) B)) && (decide (allP (mergeL A C 2) C) && decide (allP (mergeL B D 2) D))) && (decide (allP A (mergeL A C 1)) && decide (allP B (mergeL B D 1)))) && (decide (allP C (mergeL A C 1)) && decide (allP D (mergeL B D 1)))) && (decide (allP A A) && decide (allP (dropL B x) B))) && (!(hasB (dropL B x) x))) = true) ∧ True) ∧ ((Try.prog.info? 29).isSome = true ∧ RowOk (But w273 none) b184 (0) (Try.prog.cellsOf 29) #[v28a, v28b])) ∧ (((((((((decide (allP (mergeL A C 2) A) && decide (allP (mergeL B D 2) B)) && (decide (allP (mergeL A C 2) C) && decide (allP (mergeL B D 2) D))) && (decide (allP A (mergeL A C 1)) && decide (allP B (mergeL B D 1)))) && (decide (allP C (mergeL A C 1)) && decide (allP D (mergeL B D 1)))) && (decide (allP A A) && decide (allP (dropL B x) B))) && (!(hasB (dropL B x) x))) = true) ∧ True) ∧ ((Try.prog.info? 29).isSome = true ∧ RowOk (But w273 none) b184 (0) (Try.prog.cellsOf 29) #[v28a, v28b])) ∧ True) hA hD ⟨⟨⟨hb285, trivial⟩, ⟨by kernel_rfl, by exact box_rowC (box_atC H0 none 2 rfl (fun e => by cases e)) 0 2⟩⟩, ⟨⟨hb285, trivial⟩, ⟨by kernel_rfl, by exact box_rowC (box_atC H0 none 1 rfl (fun e => by cases e)) 0 2⟩⟩, ⟨⟨hb285, trivial⟩, ⟨by kernel_rfl, by exact box_rowC (box_atC H0 none 1 rfl (fun e => by cases e)) 0 2⟩⟩, trivial⟩ fun a hA => ?_
        refine m_one 33 ?_; refine op_on [(94, true)] ((((((((decide (allP (mergeL A C 2) A) && decide (allP (mergeL B D 2) B)) && (decide (allP (mergeL A C 2) C) && decide (allP (mergeL B D 2) D))) && (decide (allP A (mergeL A C 1)) && decide (allP B (mergeL B D 1)))) && (decide (allP C (mergeL A C 1)) && decide (allP D (mergeL B D 1)))) && (decide (allP A A) && decide (allP (dropL B x) B))) && (!(hasB (dropL B x) x))) = true) ∧ True) hA ⟨hb285, trivial⟩ ?_; refine q_call 33 97 40 #[.tmp 95, .tmp 96] #[29, 29] [.agg #[v17a, v17b], .agg #[v28a, v28b]] (fun S v w' => Rd S w' v ((mergeL (mergeL A C 2) (mergeL A C 1) 1, mergeL (mergeL B D 2) (mergeL B D 1) 1))) [(4, .pointer (some ⟨b2, 0, none⟩)), (5, .pointer (some ⟨b4, 0, none⟩)), (94, .bool ((((((decide (allP (mergeL A C 2) A) && decide (allP (mergeL B D 2) B)) && (decide (allP (mergeL A C 2) C) && decide (allP (mergeL B D 2) D))) && (decide (allP A (mergeL A C 1)) && decide (allP B (mergeL B D 1)))) && (decide (allP C (mergeL A C 1)) && decide (allP D (mergeL B D 1)))) && (decide (allP A A) && decide (allP (dropL B x) B))) && (!(hasB (dropL B x) x)))), (98, .agg #[v28a, v28b])] hA H (by exact or_any v17a v17b v28a v28b (mergeL A C 2) (mergeL B D 2) (mergeL A C 1) (mergeL B D 1) H.at ((H.get 8 rfl)) ((H.get 7 rfl)) ((H.get 6 rfl)) ((H.get 5 rfl)) (by (try simp only [List.length_cons, List.length_nil]); omega) (by (try simp only [List.length_cons, List.length_nil]); omega)) fun v286 a w287 S hR288 H hA hG => ?_
        obtain ⟨v286a, v286b, rfl, hR288a, hR288b⟩ := two_rd hR288
        replace H := H.ro hR288a; replace H := H.ro hR288b
        replace H : Fr _ _ _ [.ro v286b (mergeL (mergeL B D 2) (mergeL B D 1) 1), .ro v286a (mergeL (mergeL A C 2) (mergeL A C 1) 1), .box b222 29 [v66a, v66b], .box b184 29 [v28a, v28b], .box b125 29 [v17a, v17b], .ro v66b (dropL B x), .ro v66a A, .ro v28b (mergeL B D 1), .ro v28a (mergeL A C 1), .ro v17b (mergeL B D 2), .ro v17a (mergeL A C 2), .box b6 29 [vb, eb], .box b4 29 [va, ea], .box b2 24 [.int .i64 n, ve]] := H
        replace hD := hD.below hG
        refine ⟨fun _ => hD, ?_⟩
        refine m_one 35 ?_; refine q_oneE [(94, true)] 35 [(99, .bool (decide ((mergeL (mergeL A C 2) (mergeL A C 1) 1) = (mergeL A C 1)) && decide ((mergeL (mergeL B D 2) (mergeL B D 1) 1) = (mergeL B D 1))))] [⟨4, [], .pointer (some ⟨b2, 0, none⟩)⟩, ⟨5, [], .pointer (some ⟨b4, 0, none⟩)⟩, ⟨94, [], .bool ((((((decide (allP (mergeL A C 2) A) && decide (allP (mergeL B D 2) B)) && (decide (allP (mergeL A C 2) C) && decide (allP (mergeL B D 2) D))) && (decide (allP A (mergeL A C 1)) && decide (allP B (mergeL B D 1)))) && (decide (allP C (mergeL A C 1)) && decide (allP D (mergeL B D 1)))) && (decide (allP A A) && decide (allP (dropL B x) B))) && (!(hasB (dropL B x) x)))⟩, ⟨99, [], .bool (decide ((mergeL (mergeL A C 2) (mergeL A C 1) 1) = (mergeL A C 1)) && decide ((mergeL (mergeL B D 2) (mergeL B D 1) 1) = (mergeL B D 1)))⟩] ((((((((((decide (allP (mergeL A C 2) A) && decide (allP (mergeL B D 2) B)) && (decide (allP (mergeL A C 2) C) && decide (allP (mergeL B D 2) D))) && (decide (allP A (mergeL A C 1)) && decide (allP B (mergeL B D 1)))) && (decide (allP C (mergeL A C 1)) && decide (allP D (mergeL B D 1)))) && (decide (allP A A) && decide (allP (dropL B x) B))) && (!(hasB (dropL B x) x))) = true) ∧ True) ∧ (Callable Try.prog 28 ∧ CallOk Try.prog (On w287) 28 [.agg #[v286a, v286b], .agg #[v28a, v28b]].toArray (.bool (decide ((mergeL (mergeL A C 2) (mergeL A C 1) 1) = (mergeL A C 1)) && decide ((mergeL (mergeL B D 2) (mergeL B D 1) 1) = (mergeL B D 1)))))) ∧ True) hA H ⟨⟨⟨hb285, trivial⟩, ⟨callable_of, callOk_of fun w hw => by exact same_any v286a v286b v28a v28b (mergeL (mergeL A C 2) (mergeL A C 1) 1) (mergeL (mergeL B D 2) (mergeL B D 1) 1) (mergeL A C 1) (mergeL B D 1) w (((H.on hw).get 1 rfl)) (((H.on hw).get 0 rfl)) (((H.on hw).get 8 rfl)) (((H.on hw).get 7 rfl))⟩⟩, trivial⟩ fun a w291 H hA hG => ?_
        replace hD := hD.below hG
        refine ⟨fun _ => hD, ?_⟩
        refine m_takeK (n := 6) [(94, true)] [36, 37] #[true, true, true, true, true, true, true, true, true, true, true, true, true, true, true, true, true, true, true, true, true, true, true, true, true, true, true, true, true, true, true, true, true, true, true, true, true, true, false, false, false, false, false, false] [] [(4, .pointer (some ⟨b2, 0, none⟩)), (5, .pointer (some ⟨b4, 0, none⟩)), (101, .bool (decide ((mergeL (mergeL A C 2) (mergeL A C 1) 1) = (mergeL A C 1)) && decide ((mergeL (mergeL B D 2) (mergeL B D 1) 1) = (mergeL B D 1))))] (((True) ∧ (((((((decide (allP (mergeL A C 2) A) && decide (allP (mergeL B D 2) B)) && (decide (allP (mergeL A C 2) C) && decide (allP (mergeL B D 2) D))) && (decide (allP A (mergeL A C 1)) && decide (allP B (mergeL B D 1)))) && (decide (allP C (mergeL A C 1)) && decide (allP D (mergeL B D 1)))) && (decide (allP A A) && decide (allP (dropL B x) B))) && (!(hasB (dropL B x) x))) = true)) ∧ ((True) ∧ (True)) ∧ True) hA hD ⟨⟨trivial, hb285⟩, ⟨trivial, trivial⟩, trivial⟩ fun a hA => ?_
        have hb292 : (decide ((mergeL (mergeL A C 2) (mergeL A C 1) 1) = (mergeL A C 1)) && decide ((mergeL (mergeL B D 2) (mergeL B D 1) 1) = (mergeL B D 1))) = true := (by obtain ⟨z1, z2, z3, ⟨z4, z5⟩, ⟨z6, z7⟩, ⟨z8, z9⟩, ⟨y1, y2⟩, ⟨y3, y4⟩, y5, ⟨y6, y7⟩, y8, y9⟩ := hpl; simp [z4, z5, z6, z7, z8, z9, y1, y2, y3, y4, y5, y6, y7, y8, y9])
        have hhb292 := hb292
        refine m_takeE (n := 4) [(94, true), (101, true)] [38, 39] #[true, true, true, true, true, true, true, true, true, true, true, true, true, true, true, true, true, true, true, true, true, true, true, true, true, true, true, true, true, true, true, true, true, true, true, true, true, true, true, true, false, false, false, false] [(102, .agg #[va, ea]), (103, .agg #[.int .i64 n, ve])] [⟨101, [], .bool (decide ((mergeL (mergeL A C 2) (mergeL A C 1) 1) = (mergeL A C 1)) && decide ((mergeL (mergeL B D 2) (mergeL B D 1) 1) = (mergeL B D 1)))⟩, ⟨102, [], .agg #[va, ea]⟩, ⟨103, [], .agg #[.int .i64 n, ve]⟩] (((((decide ((mergeL (mergeL A C 2) (mergeL A C 1) 1) = (mergeL A C 1)) && decide ((mergeL (mergeL B D 2) (mergeL B D 1) 1) = (mergeL B D 1))) = true) ∧ True) ∧ ((Try.prog.info? 29).isSome = true ∧ RowOk (But w273 none) b4 (0) (Try.prog.cellsOf 29) #[va, ea])) ∧ ((((decide ((mergeL (mergeL A C 2) (mergeL A C 1) 1) = (mergeL A C 1)) && decide ((mergeL (mergeL B D 2) (mergeL B D 1) 1) = (mergeL B D 1))) = true) ∧ True) ∧ ((Try.prog.info? 24).isSome = true ∧ RowOk (But w273 none) b2 (0) (Try.prog.cellsOf 24) #[.int .i64 n, ve])) ∧ True) hA hD ⟨⟨⟨hb292, trivial⟩, ⟨by kernel_rfl, by exact box_rowC (box_atC H0 none 10 rfl (fun e => by cases e)) 0 2⟩⟩, ⟨⟨hb292, trivial⟩, ⟨by kernel_rfl, by exact box_rowC (box_atC H0 none 11 rfl (fun e => by cases e)) 0 2⟩⟩, trivial⟩ fun a hA => ?_
        refine m_one 40 ?_; refine op_on [(94, true), (101, true)] (((decide ((mergeL (mergeL A C 2) (mergeL A C 1) 1) = (mergeL A C 1)) && decide ((mergeL (mergeL B D 2) (mergeL B D 1) 1) = (mergeL B D 1))) = true) ∧ True) hA ⟨hb292, trivial⟩ ?_; refine q_call 40 104 23 #[.tmp 103] #[24] [.agg #[.int .i64 n, ve]] (fun S v w' => Rd S w' v ((upto n, upto (E.length : Int)))) [(101, .bool (decide ((mergeL (mergeL A C 2) (mergeL A C 1) 1) = (mergeL A C 1)) && decide ((mergeL (mergeL B D 2) (mergeL B D 1) 1) = (mergeL B D 1)))), (102, .agg #[va, ea])] hA H (by exact (by have h := whole_any n ve E H.at (by omega) ((H.arg hE)); rw [hwh] at h; exact h)) fun v293 a w294 S hR295 H hA hG => ?_
        obtain ⟨v293a, v293b, rfl, hR295a, hR295b⟩ := two_rd hR295
        replace H := H.ro hR295a; replace H := H.ro hR295b
        replace H : Fr _ _ _ [.ro v293b (upto (E.length : Int)), .ro v293a (upto n), .ro v286b (mergeL (mergeL B D 2) (mergeL B D 1) 1), .ro v286a (mergeL (mergeL A C 2) (mergeL A C 1) 1), .box b222 29 [v66a, v66b], .box b184 29 [v28a, v28b], .box b125 29 [v17a, v17b], .ro v66b (dropL B x), .ro v66a A, .ro v28b (mergeL B D 1), .ro v28a (mergeL A C 1), .ro v17b (mergeL B D 2), .ro v17a (mergeL A C 2), .box b6 29 [vb, eb], .box b4 29 [va, ea], .box b2 24 [.int .i64 n, ve]] := H
        replace hD := hD.below hG
        refine ⟨fun _ => hD, ?_⟩
        refine m_one 41 ?_; refine q_oneE [(94, true), (101, true)] 41 [(105, .bool (decide (allP A (upto n)) && decide (allP B (upto (E.length : Int)))))] [⟨101, [], .bool (decide ((mergeL (mergeL A C 2) (mergeL A C 1) 1) = (mergeL A C 1)) && decide ((mergeL (mergeL B D 2) (mergeL B D 1) 1) = (mergeL B D 1)))⟩, ⟨105, [], .bool (decide (allP A (upto n)) && decide (allP B (upto (E.length : Int))))⟩] (((((decide ((mergeL (mergeL A C 2) (mergeL A C 1) 1) = (mergeL A C 1)) && decide ((mergeL (mergeL B D 2) (mergeL B D 1) 1) = (mergeL B D 1))) = true) ∧ True) ∧ (Callable Try.prog 41 ∧ CallOk Try.prog (On w294) 41 [.agg #[va, ea], .agg #[v293a, v293b]].toArray (.bool (decide (allP A (upto n)) && decide (allP B (upto (E.length : Int))))))) ∧ True) hA H ⟨⟨⟨hb292, trivial⟩, ⟨callable_of, callOk_of fun w hw => by exact within_any va ea v293a v293b A B (upto n) (upto (E.length : Int)) w (((H.on hw).arg gA)) (((H.on hw).arg gB)) (((H.on hw).get 1 rfl)) (((H.on hw).get 0 rfl)) (by omega) (by omega)⟩⟩, trivial⟩ fun a w298 H hA hG => ?_
        replace hD := hD.below hG
        refine ⟨fun _ => hD, ?_⟩
        refine m_takeK (n := 1) [(94, true), (101, true)] [42] #[true, true, true, true, true, true, true, true, true, true, true, true, true, true, true, true, true, true, true, true, true, true, true, true, true, true, true, true, true, true, true, true, true, true, true, true, true, true, true, true, true, true, true, false] [] [(106, .bool (decide (allP A (upto n)) && decide (allP B (upto (E.length : Int)))))] (((True) ∧ ((decide ((mergeL (mergeL A C 2) (mergeL A C 1) 1) = (mergeL A C 1)) && decide ((mergeL (mergeL B D 2) (mergeL B D 1) 1) = (mergeL B D 1))) = true)) ∧ True) hA hD ⟨⟨trivial, hb292⟩, trivial⟩ fun a hA => ?_
        refine m_one 43 ?_; refine q_oneK [(94, true), (101, true)] 43 [] [(8, .bool (decide (allP A (upto n)) && decide (allP B (upto (E.length : Int)))))] (((True) ∧ (True)) ∧ True) hA H ⟨⟨trivial, trivial⟩, trivial⟩ fun a w299 H hA hG => ?_
        refine ⟨fun h => absurd h (by decide), ?_⟩
        refine m_end ?_
        refine hK277 _ _ ?_
        refine go_ret_ ?_
        refine ret_one 8 (.bool (decide (allP A (upto n)) && decide (allP B (upto (E.length : Int))))) hA ?_
        refine ans_b' ?_ H.below
        try rw [hwh]
        obtain ⟨z1, z2, z3, ⟨z4, z5⟩, ⟨z6, z7⟩, ⟨z8, z9⟩, ⟨y1, y2⟩, ⟨y3, y4⟩, y5, ⟨y6, y7⟩, y8, y9⟩ := hpl
        simp [z4, z5, z6, z7, z8, z9, y1, y2, y3, y4, y5, y6, y7, y8, y9]
    have hM236 : ∀ (a : Act) (w300 : World) (S : Stab) (v17a : Value) (v17b : Value) (v28a : Value) (v28b : Value) (v66a : Value) (v66b : Value) (b125 : Nat) (hge_b125 : w11.heap.size ≤ b125) (b184 : Nat) (hge_b184 : w11.heap.size ≤ b184) (b222 : Nat) (hge_b222 : w11.heap.size ≤ b222), EnvOk 107 a (keepEnv [(3, .int .i64 x), (4, .pointer (some ⟨b2, 0, none⟩)), (5, .pointer (some ⟨b4, 0, none⟩)), (6, .pointer (some ⟨b6, 0, none⟩)), (9, .pointer (some ⟨b125, 0, none⟩)), (10, .pointer (some ⟨b184, 0, none⟩)), (11, .pointer (some ⟨b222, 0, none⟩)), (44, .agg #[v28a, v28b]), (47, .agg #[v66a, v66b])]) → Fr (org w) w300 S [.box b222 29 [(.slice none 0 0), (.slice none 0 0)], .box b184 29 [(.slice none 0 0), (.slice none 0 0)], .box b125 29 [v17a, v17b], .ro v66b (dropL B x), .ro v66a A, .ro v28b (mergeL B D 1), .ro v28a (mergeL A C 1), .ro v17b (mergeL B D 2), .ro v17a (mergeL A C 2), .box b6 29 [vb, eb], .box b4 29 [va, ea], .box b2 24 [.int .i64 n, ve]] → But w11 none w300 → M 2 #[true, true, true, true, true, true, true, true, true, true, true, true, true, false, false] a w300 := by
      intro a w300 S v17a v17b v28a v28b v66a v66b b125 hge_b125 b184 hge_b184 b222 hge_b222 hA H hD
      refine (hM _ _ _ _).2 ?_
      refine m_one 13 ?_; refine q_store 13 29 (.tmp 10) (.tmp 44) 1 b184 (0) 29 [(.slice none 0 0), (.slice none 0 0)] [v28a, v28b] [v28a, v28b] (.agg #[v28a, v28b]) [(3, .int .i64 x), (4, .pointer (some ⟨b2, 0, none⟩)), (5, .pointer (some ⟨b4, 0, none⟩)), (6, .pointer (some ⟨b6, 0, none⟩)), (9, .pointer (some ⟨b125, 0, none⟩)), (10, .pointer (some ⟨b184, 0, none⟩)), (11, .pointer (some ⟨b222, 0, none⟩)), (47, .agg #[v66a, v66b])] hA H rfl rfl (Nat.le_of_ble_eq_true (by kernel_rfl)) rfl (fun v hv => by simp only [List.mem_cons, List.not_mem_nil, or_false] at hv; rcases hv with rfl | rfl; exact (rd_one (H.get 6 rfl)); exact (rd_one (H.get 5 rfl))) fun a w301 H hA hG => ?_
      replace H : Fr _ _ _ [.box b222 29 [(.slice none 0 0), (.slice none 0 0)], .box b184 29 [v28a, v28b], .box b125 29 [v17a, v17b], .ro v66b (dropL B x), .ro v66a A, .ro v28b (mergeL B D 1), .ro v28a (mergeL A C 1), .ro v17b (mergeL B D 2), .ro v17a (mergeL A C 2), .box b6 29 [vb, eb], .box b4 29 [va, ea], .box b2 24 [.int .i64 n, ve]] := H
      replace hD := hD.grown hG (fun b_ hb_ => .inr (by cases hb_; assumption))
      refine ⟨fun _ => hD, ?_⟩
      exact (hM _ _ _ _).1 (hM235 _ _ _ v17a v17b v28a v28b v66a v66b b125 hge_b125 b184 hge_b184 b222 hge_b222 (env_sub _ hA) H hD)
    have hM237 : ∀ (a : Act) (w302 : World) (S : Stab) (v17a : Value) (v17b : Value) (v28a : Value) (v28b : Value) (v66a : Value) (v66b : Value) (b125 : Nat) (hge_b125 : w11.heap.size ≤ b125) (b184 : Nat) (hge_b184 : w11.heap.size ≤ b184) (b222 : Nat) (hge_b222 : w11.heap.size ≤ b222), EnvOk 107 a (keepEnv [(3, .int .i64 x), (4, .pointer (some ⟨b2, 0, none⟩)), (5, .pointer (some ⟨b4, 0, none⟩)), (6, .pointer (some ⟨b6, 0, none⟩)), (9, .pointer (some ⟨b125, 0, none⟩)), (10, .pointer (some ⟨b184, 0, none⟩)), (11, .pointer (some ⟨b222, 0, none⟩)), (41, .agg #[v17a, v17b]), (44, .agg #[v28a, v28b]), (47, .agg #[v66a, v66b])]) → Fr (org w) w302 S [.box b222 29 [(.slice none 0 0), (.slice none 0 0)], .box b184 29 [(.slice none 0 0), (.slice none 0 0)], .box b125 29 [(.slice none 0 0), (.slice none 0 0)], .ro v66b (dropL B x), .ro v66a A, .ro v28b (mergeL B D 1), .ro v28a (mergeL A C 1), .ro v17b (mergeL B D 2), .ro v17a (mergeL A C 2), .box b6 29 [vb, eb], .box b4 29 [va, ea], .box b2 24 [.int .i64 n, ve]] → But w11 none w302 → M 3 #[true, true, true, true, true, true, true, true, true, true, true, true, false, false, false] a w302 := by
      intro a w302 S v17a v17b v28a v28b v66a v66b b125 hge_b125 b184 hge_b184 b222 hge_b222 hA H hD
      refine (hM _ _ _ _).2 ?_
      refine m_one 12 ?_; refine q_store 12 29 (.tmp 9) (.tmp 41) 2 b125 (0) 29 [(.slice none 0 0), (.slice none 0 0)] [v17a, v17b] [v17a, v17b] (.agg #[v17a, v17b]) [(3, .int .i64 x), (4, .pointer (some ⟨b2, 0, none⟩)), (5, .pointer (some ⟨b4, 0, none⟩)), (6, .pointer (some ⟨b6, 0, none⟩)), (9, .pointer (some ⟨b125, 0, none⟩)), (10, .pointer (some ⟨b184, 0, none⟩)), (11, .pointer (some ⟨b222, 0, none⟩)), (44, .agg #[v28a, v28b]), (47, .agg #[v66a, v66b])] hA H rfl rfl (Nat.le_of_ble_eq_true (by kernel_rfl)) rfl (fun v hv => by simp only [List.mem_cons, List.not_mem_nil, or_false] at hv; rcases hv with rfl | rfl; exact (rd_one (H.get 8 rfl)); exact (rd_one (H.get 7 rfl))) fun a w303 H hA hG => ?_
      replace H : Fr _ _ _ [.box b222 29 [(.slice none 0 0), (.slice none 0 0)], .box b184 29 [(.slice none 0 0), (.slice none 0 0)], .box b125 29 [v17a, v17b], .ro v66b (dropL B x), .ro v66a A, .ro v28b (mergeL B D 1), .ro v28a (mergeL A C 1), .ro v17b (mergeL B D 2), .ro v17a (mergeL A C 2), .box b6 29 [vb, eb], .box b4 29 [va, ea], .box b2 24 [.int .i64 n, ve]] := H
      replace hD := hD.grown hG (fun b_ hb_ => .inr (by cases hb_; assumption))
      refine ⟨fun _ => hD, ?_⟩
      exact (hM _ _ _ _).1 (hM236 _ _ _ v17a v17b v28a v28b v66a v66b b125 hge_b125 b184 hge_b184 b222 hge_b222 (env_sub _ hA) H hD)
    have hM238 : ∀ (a : Act) (w304 : World) (S : Stab) (v17a : Value) (v17b : Value) (v28a : Value) (v28b : Value) (v66a : Value) (v66b : Value) (b125 : Nat) (hge_b125 : w11.heap.size ≤ b125) (b184 : Nat) (hge_b184 : w11.heap.size ≤ b184), EnvOk 107 a (keepEnv [(3, .int .i64 x), (4, .pointer (some ⟨b2, 0, none⟩)), (5, .pointer (some ⟨b4, 0, none⟩)), (6, .pointer (some ⟨b6, 0, none⟩)), (9, .pointer (some ⟨b125, 0, none⟩)), (10, .pointer (some ⟨b184, 0, none⟩)), (41, .agg #[v17a, v17b]), (44, .agg #[v28a, v28b]), (47, .agg #[v66a, v66b])]) → Fr (org w) w304 S [.box b184 29 [(.slice none 0 0), (.slice none 0 0)], .box b125 29 [(.slice none 0 0), (.slice none 0 0)], .ro v66b (dropL B x), .ro v66a A, .ro v28b (mergeL B D 1), .ro v28a (mergeL A C 1), .ro v17b (mergeL B D 2), .ro v17a (mergeL A C 2), .box b6 29 [vb, eb], .box b4 29 [va, ea], .box b2 24 [.int .i64 n, ve]] → But w11 none w304 → M 4 #[true, true, true, true, true, true, true, true, true, true, true, false, false, false, false] a w304 := by
      intro a w304 S v17a v17b v28a v28b v66a v66b b125 hge_b125 b184 hge_b184 hA H hD
      refine (hM _ _ _ _).2 ?_
      refine m_one 11 ?_; refine q_alloc 11 11 29 [(.slice none 0 0), (.slice none 0 0)] [(3, .int .i64 x), (4, .pointer (some ⟨b2, 0, none⟩)), (5, .pointer (some ⟨b4, 0, none⟩)), (6, .pointer (some ⟨b6, 0, none⟩)), (9, .pointer (some ⟨b125, 0, none⟩)), (10, .pointer (some ⟨b184, 0, none⟩)), (41, .agg #[v17a, v17b]), (44, .agg #[v28a, v28b]), (47, .agg #[v66a, v66b])] hA H fun b305 a w306 H hA hG hge_b305 => ?_
      replace hge_b305 := Nat.le_trans hD.1 hge_b305
      replace hD := hD.below hG
      refine ⟨fun _ => hD, ?_⟩
      exact (hM _ _ _ _).1 (hM237 _ _ _ v17a v17b v28a v28b v66a v66b b125 hge_b125 b184 hge_b184 b305 hge_b305 (env_sub _ hA) H hD)
    have hM239 : ∀ (a : Act) (w307 : World) (S : Stab) (v17a : Value) (v17b : Value) (v28a : Value) (v28b : Value) (v66a : Value) (v66b : Value) (b125 : Nat) (hge_b125 : w11.heap.size ≤ b125) (b186 : Nat) (hge_b186 : w11.heap.size ≤ b186), EnvOk 107 a (keepEnv [(3, .int .i64 x), (4, .pointer (some ⟨b2, 0, none⟩)), (5, .pointer (some ⟨b4, 0, none⟩)), (6, .pointer (some ⟨b6, 0, none⟩)), (9, .pointer (some ⟨b125, 0, none⟩)), (11, .pointer (some ⟨b186, 0, none⟩)), (41, .agg #[v17a, v17b]), (44, .agg #[v28a, v28b]), (47, .agg #[v66a, v66b])]) → Fr (org w) w307 S [.box b186 29 [(.slice none 0 0), (.slice none 0 0)], .box b125 29 [(.slice none 0 0), (.slice none 0 0)], .ro v66b (dropL B x), .ro v66a A, .ro v28b (mergeL B D 1), .ro v28a (mergeL A C 1), .ro v17b (mergeL B D 2), .ro v17a (mergeL A C 2), .box b6 29 [vb, eb], .box b4 29 [va, ea], .box b2 24 [.int .i64 n, ve]] → But w11 none w307 → M 4 #[true, true, true, true, true, true, true, true, true, true, false, true, false, false, false] a w307 := by
      intro a w307 S v17a v17b v28a v28b v66a v66b b125 hge_b125 b186 hge_b186 hA H hD
      refine (hM _ _ _ _).2 ?_
      refine m_one 10 ?_; refine q_alloc 10 10 29 [(.slice none 0 0), (.slice none 0 0)] [(3, .int .i64 x), (4, .pointer (some ⟨b2, 0, none⟩)), (5, .pointer (some ⟨b4, 0, none⟩)), (6, .pointer (some ⟨b6, 0, none⟩)), (9, .pointer (some ⟨b125, 0, none⟩)), (11, .pointer (some ⟨b186, 0, none⟩)), (41, .agg #[v17a, v17b]), (44, .agg #[v28a, v28b]), (47, .agg #[v66a, v66b])] hA H fun b308 a w309 H hA hG hge_b308 => ?_
      replace hge_b308 := Nat.le_trans hD.1 hge_b308
      replace H : Fr _ _ _ [.box b186 29 [(.slice none 0 0), (.slice none 0 0)], .box b308 29 [(.slice none 0 0), (.slice none 0 0)], .box b125 29 [(.slice none 0 0), (.slice none 0 0)], .ro v66b (dropL B x), .ro v66a A, .ro v28b (mergeL B D 1), .ro v28a (mergeL A C 1), .ro v17b (mergeL B D 2), .ro v17a (mergeL A C 2), .box b6 29 [vb, eb], .box b4 29 [va, ea], .box b2 24 [.int .i64 n, ve]] := H.sink 1 1
      replace hD := hD.below hG
      refine ⟨fun _ => hD, ?_⟩
      exact (hM _ _ _ _).1 (hM237 _ _ _ v17a v17b v28a v28b v66a v66b b125 hge_b125 b308 hge_b308 b186 hge_b186 (env_sub _ hA) H hD)
    have hM240 : ∀ (a : Act) (w310 : World) (S : Stab) (v17a : Value) (v17b : Value) (v28a : Value) (v28b : Value) (v66a : Value) (v66b : Value) (b127 : Nat) (hge_b127 : w11.heap.size ≤ b127) (b190 : Nat) (hge_b190 : w11.heap.size ≤ b190), EnvOk 107 a (keepEnv [(3, .int .i64 x), (4, .pointer (some ⟨b2, 0, none⟩)), (5, .pointer (some ⟨b4, 0, none⟩)), (6, .pointer (some ⟨b6, 0, none⟩)), (10, .pointer (some ⟨b127, 0, none⟩)), (11, .pointer (some ⟨b190, 0, none⟩)), (41, .agg #[v17a, v17b]), (44, .agg #[v28a, v28b]), (47, .agg #[v66a, v66b])]) → Fr (org w) w310 S [.box b190 29 [(.slice none 0 0), (.slice none 0 0)], .box b127 29 [(.slice none 0 0), (.slice none 0 0)], .ro v66b (dropL B x), .ro v66a A, .ro v28b (mergeL B D 1), .ro v28a (mergeL A C 1), .ro v17b (mergeL B D 2), .ro v17a (mergeL A C 2), .box b6 29 [vb, eb], .box b4 29 [va, ea], .box b2 24 [.int .i64 n, ve]] → But w11 none w310 → M 4 #[true, true, true, true, true, true, true, true, true, false, true, true, false, false, false] a w310 := by
      intro a w310 S v17a v17b v28a v28b v66a v66b b127 hge_b127 b190 hge_b190 hA H hD
      refine (hM _ _ _ _).2 ?_
      refine m_one 9 ?_; refine q_alloc 9 9 29 [(.slice none 0 0), (.slice none 0 0)] [(3, .int .i64 x), (4, .pointer (some ⟨b2, 0, none⟩)), (5, .pointer (some ⟨b4, 0, none⟩)), (6, .pointer (some ⟨b6, 0, none⟩)), (10, .pointer (some ⟨b127, 0, none⟩)), (11, .pointer (some ⟨b190, 0, none⟩)), (41, .agg #[v17a, v17b]), (44, .agg #[v28a, v28b]), (47, .agg #[v66a, v66b])] hA H fun b311 a w312 H hA hG hge_b311 => ?_
      replace hge_b311 := Nat.le_trans hD.1 hge_b311
      replace H : Fr _ _ _ [.box b190 29 [(.slice none 0 0), (.slice none 0 0)], .box b127 29 [(.slice none 0 0), (.slice none 0 0)], .box b311 29 [(.slice none 0 0), (.slice none 0 0)], .ro v66b (dropL B x), .ro v66a A, .ro v28b (mergeL B D 1), .ro v28a (mergeL A C 1), .ro v17b (mergeL B D 2), .ro v17a (mergeL A C 2), .box b6 29 [vb, eb], .box b4 29 [va, ea], .box b2 24 [.int .i64 n, ve]] := H.sink 1 2
      replace hD := hD.below hG
      refine ⟨fun _ => hD, ?_⟩
      exact (hM _ _ _ _).1 (hM237 _ _ _ v17a v17b v28a v28b v66a v66b b311 hge_b311 b127 hge_b127 b190 hge_b190 (env_sub _ hA) H hD)
    have hM241 : ∀ (a : Act) (w313 : World) (S : Stab) (v17a : Value) (v17b : Value) (v28a : Value) (v28b : Value) (b71 : Nat) (hge_b71 : w11.heap.size ≤ b71) (b136 : Nat) (hge_b136 : w11.heap.size ≤ b136) (b201 : Nat) (hge_b201 : w11.heap.size ≤ b201), EnvOk 107 a (keepEnv [(3, .int .i64 x), (4, .pointer (some ⟨b2, 0, none⟩)), (5, .pointer (some ⟨b4, 0, none⟩)), (6, .pointer (some ⟨b6, 0, none⟩)), (9, .pointer (some ⟨b71, 0, none⟩)), (10, .pointer (some ⟨b136, 0, none⟩)), (11, .pointer (some ⟨b201, 0, none⟩)), (41, .agg #[v17a, v17b]), (44, .agg #[v28a, v28b]), (45, .agg #[va, ea]), (46, .int .i64 x)]) → Fr (org w) w313 S [.box b201 29 [(.slice none 0 0), (.slice none 0 0)], .box b136 29 [(.slice none 0 0), (.slice none 0 0)], .box b71 29 [(.slice none 0 0), (.slice none 0 0)], .ro v28b (mergeL B D 1), .ro v28a (mergeL A C 1), .ro v17b (mergeL B D 2), .ro v17a (mergeL A C 2), .box b6 29 [vb, eb], .box b4 29 [va, ea], .box b2 24 [.int .i64 n, ve]] → But w11 none w313 → M 4 #[true, true, true, true, true, true, true, true, false, true, true, true, false, false, false] a w313 := by
      intro a w313 S v17a v17b v28a v28b b71 hge_b71 b136 hge_b136 b201 hge_b201 hA H hD
      refine (hM _ _ _ _).2 ?_
      refine m_one 8 ?_; refine q_call 8 47 38 #[.tmp 45, .tmp 46] #[29, 3] [.agg #[va, ea], .int .i64 x] (fun S v w' => Rd S w' v ((A, dropL B x))) [(3, .int .i64 x), (4, .pointer (some ⟨b2, 0, none⟩)), (5, .pointer (some ⟨b4, 0, none⟩)), (6, .pointer (some ⟨b6, 0, none⟩)), (9, .pointer (some ⟨b71, 0, none⟩)), (10, .pointer (some ⟨b136, 0, none⟩)), (11, .pointer (some ⟨b201, 0, none⟩)), (41, .agg #[v17a, v17b]), (44, .agg #[v28a, v28b])] hA H (by exact drop_any va ea A B x H.at ((H.arg gA)) ((H.arg gB)) (by omega) (by omega)) fun v314 a w315 S hR316 H hA hG => ?_
      obtain ⟨v314a, v314b, rfl, hR316a, hR316b⟩ := two_rd hR316
      replace H := H.ro hR316a; replace H := H.ro hR316b
      replace H : Fr _ _ _ [.ro v314b (dropL B x), .ro v314a A, .box b201 29 [(.slice none 0 0), (.slice none 0 0)], .box b136 29 [(.slice none 0 0), (.slice none 0 0)], .box b71 29 [(.slice none 0 0), (.slice none 0 0)], .ro v28b (mergeL B D 1), .ro v28a (mergeL A C 1), .ro v17b (mergeL B D 2), .ro v17a (mergeL A C 2), .box b6 29 [vb, eb], .box b4 29 [va, ea], .box b2 24 [.int .i64 n, ve]] := H
      replace H : Fr _ _ _ [.box b201 29 [(.slice none 0 0), (.slice none 0 0)], .box b136 29 [(.slice none 0 0), (.slice none 0 0)], .box b71 29 [(.slice none 0 0), (.slice none 0 0)], .ro v314b (dropL B x), .ro v314a A, .ro v28b (mergeL B D 1), .ro v28a (mergeL A C 1), .ro v17b (mergeL B D 2), .ro v17a (mergeL A C 2), .box b6 29 [vb, eb], .box b4 29 [va, ea], .box b2 24 [.int .i64 n, ve]] := H.sink 2 3
      replace hD := hD.below hG
      refine ⟨fun _ => hD, ?_⟩
      exact (hM _ _ _ _).1 (hM237 _ _ _ v17a v17b v28a v28b v314a v314b b71 hge_b71 b136 hge_b136 b201 hge_b201 (env_sub _ hA) H hD)
    have hM242 : ∀ (a : Act) (w319 : World) (S : Stab) (v17a : Value) (v17b : Value) (v28a : Value) (v28b : Value) (v66a : Value) (v66b : Value) (b125 : Nat) (hge_b125 : w11.heap.size ≤ b125), EnvOk 107 a (keepEnv [(3, .int .i64 x), (4, .pointer (some ⟨b2, 0, none⟩)), (5, .pointer (some ⟨b4, 0, none⟩)), (6, .pointer (some ⟨b6, 0, none⟩)), (9, .pointer (some ⟨b125, 0, none⟩)), (41, .agg #[v17a, v17b]), (44, .agg #[v28a, v28b]), (47, .agg #[v66a, v66b])]) → Fr (org w) w319 S [.box b125 29 [(.slice none 0 0), (.slice none 0 0)], .ro v66b (dropL B x), .ro v66a A, .ro v28b (mergeL B D 1), .ro v28a (mergeL A C 1), .ro v17b (mergeL B D 2), .ro v17a (mergeL A C 2), .box b6 29 [vb, eb], .box b4 29 [va, ea], .box b2 24 [.int .i64 n, ve]] → But w11 none w319 → M 5 #[true, true, true, true, true, true, true, true, true, true, false, false, false, false, false] a w319 := by
      intro a w319 S v17a v17b v28a v28b v66a v66b b125 hge_b125 hA H hD
      refine (hM _ _ _ _).2 ?_
      refine m_many [10, 11] fun i_ hi_ => ?_
      simp only [List.mem_cons, List.not_mem_nil, or_false] at hi_
      rcases hi_ with rfl | rfl
      · skip
        refine q_alloc 10 10 29 [(.slice none 0 0), (.slice none 0 0)] [(3, .int .i64 x), (4, .pointer (some ⟨b2, 0, none⟩)), (5, .pointer (some ⟨b4, 0, none⟩)), (6, .pointer (some ⟨b6, 0, none⟩)), (9, .pointer (some ⟨b125, 0, none⟩)), (41, .agg #[v17a, v17b]), (44, .agg #[v28a, v28b]), (47, .agg #[v66a, v66b])] hA H fun b320 a w321 H hA hG hge_b320 => ?_
        replace hge_b320 := Nat.le_trans hD.1 hge_b320
        replace hD := hD.below hG
        refine ⟨fun _ => hD, ?_⟩
        exact (hM _ _ _ _).1 (hM238 _ _ _ v17a v17b v28a v28b v66a v66b b125 hge_b125 b320 hge_b320 (env_sub _ hA) H hD)
      · skip
        refine q_alloc 11 11 29 [(.slice none 0 0), (.slice none 0 0)] [(3, .int .i64 x), (4, .pointer (some ⟨b2, 0, none⟩)), (5, .pointer (some ⟨b4, 0, none⟩)), (6, .pointer (some ⟨b6, 0, none⟩)), (9, .pointer (some ⟨b125, 0, none⟩)), (41, .agg #[v17a, v17b]), (44, .agg #[v28a, v28b]), (47, .agg #[v66a, v66b])] hA H fun b322 a w323 H hA hG hge_b322 => ?_
        replace hge_b322 := Nat.le_trans hD.1 hge_b322
        replace hD := hD.below hG
        refine ⟨fun _ => hD, ?_⟩
        exact (hM _ _ _ _).1 (hM239 _ _ _ v17a v17b v28a v28b v66a v66b b125 hge_b125 b322 hge_b322 (env_sub _ hA) H hD)
    have hM243 : ∀ (a : Act) (w324 : World) (S : Stab) (v17a : Value) (v17b : Value) (v28a : Value) (v28b : Value) (v66a : Value) (v66b : Value) (b127 : Nat) (hge_b127 : w11.heap.size ≤ b127), EnvOk 107 a (keepEnv [(3, .int .i64 x), (4, .pointer (some ⟨b2, 0, none⟩)), (5, .pointer (some ⟨b4, 0, none⟩)), (6, .pointer (some ⟨b6, 0, none⟩)), (10, .pointer (some ⟨b127, 0, none⟩)), (41, .agg #[v17a, v17b]), (44, .agg #[v28a, v28b]), (47, .agg #[v66a, v66b])]) → Fr (org w) w324 S [.box b127 29 [(.slice none 0 0), (.slice none 0 0)], .ro v66b (dropL B x), .ro v66a A, .ro v28b (mergeL B D 1), .ro v28a (mergeL A C 1), .ro v17b (mergeL B D 2), .ro v17a (mergeL A C 2), .box b6 29 [vb, eb], .box b4 29 [va, ea], .box b2 24 [.int .i64 n, ve]] → But w11 none w324 → M 5 #[true, true, true, true, true, true, true, true, true, false, true, false, false, false, false] a w324 := by
      intro a w324 S v17a v17b v28a v28b v66a v66b b127 hge_b127 hA H hD
      refine (hM _ _ _ _).2 ?_
      refine m_many [9, 11] fun i_ hi_ => ?_
      simp only [List.mem_cons, List.not_mem_nil, or_false] at hi_
      rcases hi_ with rfl | rfl
      · skip
        refine q_alloc 9 9 29 [(.slice none 0 0), (.slice none 0 0)] [(3, .int .i64 x), (4, .pointer (some ⟨b2, 0, none⟩)), (5, .pointer (some ⟨b4, 0, none⟩)), (6, .pointer (some ⟨b6, 0, none⟩)), (10, .pointer (some ⟨b127, 0, none⟩)), (41, .agg #[v17a, v17b]), (44, .agg #[v28a, v28b]), (47, .agg #[v66a, v66b])] hA H fun b325 a w326 H hA hG hge_b325 => ?_
        replace hge_b325 := Nat.le_trans hD.1 hge_b325
        replace H : Fr _ _ _ [.box b127 29 [(.slice none 0 0), (.slice none 0 0)], .box b325 29 [(.slice none 0 0), (.slice none 0 0)], .ro v66b (dropL B x), .ro v66a A, .ro v28b (mergeL B D 1), .ro v28a (mergeL A C 1), .ro v17b (mergeL B D 2), .ro v17a (mergeL A C 2), .box b6 29 [vb, eb], .box b4 29 [va, ea], .box b2 24 [.int .i64 n, ve]] := H.sink 1 1
        replace hD := hD.below hG
        refine ⟨fun _ => hD, ?_⟩
        exact (hM _ _ _ _).1 (hM238 _ _ _ v17a v17b v28a v28b v66a v66b b325 hge_b325 b127 hge_b127 (env_sub _ hA) H hD)
      · skip
        refine q_alloc 11 11 29 [(.slice none 0 0), (.slice none 0 0)] [(3, .int .i64 x), (4, .pointer (some ⟨b2, 0, none⟩)), (5, .pointer (some ⟨b4, 0, none⟩)), (6, .pointer (some ⟨b6, 0, none⟩)), (10, .pointer (some ⟨b127, 0, none⟩)), (41, .agg #[v17a, v17b]), (44, .agg #[v28a, v28b]), (47, .agg #[v66a, v66b])] hA H fun b327 a w328 H hA hG hge_b327 => ?_
        replace hge_b327 := Nat.le_trans hD.1 hge_b327
        replace hD := hD.below hG
        refine ⟨fun _ => hD, ?_⟩
        exact (hM _ _ _ _).1 (hM240 _ _ _ v17a v17b v28a v28b v66a v66b b127 hge_b127 b327 hge_b327 (env_sub _ hA) H hD)
    have hM244 : ∀ (a : Act) (w329 : World) (S : Stab) (v17a : Value) (v17b : Value) (v28a : Value) (v28b : Value) (v66a : Value) (v66b : Value) (b129 : Nat) (hge_b129 : w11.heap.size ≤ b129), EnvOk 107 a (keepEnv [(3, .int .i64 x), (4, .pointer (some ⟨b2, 0, none⟩)), (5, .pointer (some ⟨b4, 0, none⟩)), (6, .pointer (some ⟨b6, 0, none⟩)), (11, .pointer (some ⟨b129, 0, none⟩)), (41, .agg #[v17a, v17b]), (44, .agg #[v28a, v28b]), (47, .agg #[v66a, v66b])]) → Fr (org w) w329 S [.box b129 29 [(.slice none 0 0), (.slice none 0 0)], .ro v66b (dropL B x), .ro v66a A, .ro v28b (mergeL B D 1), .ro v28a (mergeL A C 1), .ro v17b (mergeL B D 2), .ro v17a (mergeL A C 2), .box b6 29 [vb, eb], .box b4 29 [va, ea], .box b2 24 [.int .i64 n, ve]] → But w11 none w329 → M 5 #[true, true, true, true, true, true, true, true, true, false, false, true, false, false, false] a w329 := by
      intro a w329 S v17a v17b v28a v28b v66a v66b b129 hge_b129 hA H hD
      refine (hM _ _ _ _).2 ?_
      refine m_many [9, 10] fun i_ hi_ => ?_
      simp only [List.mem_cons, List.not_mem_nil, or_false] at hi_
      rcases hi_ with rfl | rfl
      · skip
        refine q_alloc 9 9 29 [(.slice none 0 0), (.slice none 0 0)] [(3, .int .i64 x), (4, .pointer (some ⟨b2, 0, none⟩)), (5, .pointer (some ⟨b4, 0, none⟩)), (6, .pointer (some ⟨b6, 0, none⟩)), (11, .pointer (some ⟨b129, 0, none⟩)), (41, .agg #[v17a, v17b]), (44, .agg #[v28a, v28b]), (47, .agg #[v66a, v66b])] hA H fun b330 a w331 H hA hG hge_b330 => ?_
        replace hge_b330 := Nat.le_trans hD.1 hge_b330
        replace H : Fr _ _ _ [.box b129 29 [(.slice none 0 0), (.slice none 0 0)], .box b330 29 [(.slice none 0 0), (.slice none 0 0)], .ro v66b (dropL B x), .ro v66a A, .ro v28b (mergeL B D 1), .ro v28a (mergeL A C 1), .ro v17b (mergeL B D 2), .ro v17a (mergeL A C 2), .box b6 29 [vb, eb], .box b4 29 [va, ea], .box b2 24 [.int .i64 n, ve]] := H.sink 1 1
        replace hD := hD.below hG
        refine ⟨fun _ => hD, ?_⟩
        exact (hM _ _ _ _).1 (hM239 _ _ _ v17a v17b v28a v28b v66a v66b b330 hge_b330 b129 hge_b129 (env_sub _ hA) H hD)
      · skip
        refine q_alloc 10 10 29 [(.slice none 0 0), (.slice none 0 0)] [(3, .int .i64 x), (4, .pointer (some ⟨b2, 0, none⟩)), (5, .pointer (some ⟨b4, 0, none⟩)), (6, .pointer (some ⟨b6, 0, none⟩)), (11, .pointer (some ⟨b129, 0, none⟩)), (41, .agg #[v17a, v17b]), (44, .agg #[v28a, v28b]), (47, .agg #[v66a, v66b])] hA H fun b332 a w333 H hA hG hge_b332 => ?_
        replace hge_b332 := Nat.le_trans hD.1 hge_b332
        replace H : Fr _ _ _ [.box b129 29 [(.slice none 0 0), (.slice none 0 0)], .box b332 29 [(.slice none 0 0), (.slice none 0 0)], .ro v66b (dropL B x), .ro v66a A, .ro v28b (mergeL B D 1), .ro v28a (mergeL A C 1), .ro v17b (mergeL B D 2), .ro v17a (mergeL A C 2), .box b6 29 [vb, eb], .box b4 29 [va, ea], .box b2 24 [.int .i64 n, ve]] := H.sink 1 1
        replace hD := hD.below hG
        refine ⟨fun _ => hD, ?_⟩
        exact (hM _ _ _ _).1 (hM240 _ _ _ v17a v17b v28a v28b v66a v66b b332 hge_b332 b129 hge_b129 (env_sub _ hA) H hD)
    have hM245 : ∀ (a : Act) (w334 : World) (S : Stab) (v17a : Value) (v17b : Value) (v28a : Value) (v28b : Value) (b71 : Nat) (hge_b71 : w11.heap.size ≤ b71) (b136 : Nat) (hge_b136 : w11.heap.size ≤ b136), EnvOk 107 a (keepEnv [(3, .int .i64 x), (4, .pointer (some ⟨b2, 0, none⟩)), (5, .pointer (some ⟨b4, 0, none⟩)), (6, .pointer (some ⟨b6, 0, none⟩)), (9, .pointer (some ⟨b71, 0, none⟩)), (10, .pointer (some ⟨b136, 0, none⟩)), (41, .agg #[v17a, v17b]), (44, .agg #[v28a, v28b]), (45, .agg #[va, ea]), (46, .int .i64 x)]) → Fr (org w) w334 S [.box b136 29 [(.slice none 0 0), (.slice none 0 0)], .box b71 29 [(.slice none 0 0), (.slice none 0 0)], .ro v28b (mergeL B D 1), .ro v28a (mergeL A C 1), .ro v17b (mergeL B D 2), .ro v17a (mergeL A C 2), .box b6 29 [vb, eb], .box b4 29 [va, ea], .box b2 24 [.int .i64 n, ve]] → But w11 none w334 → M 5 #[true, true, true, true, true, true, true, true, false, true, true, false, false, false, false] a w334 := by
      intro a w334 S v17a v17b v28a v28b b71 hge_b71 b136 hge_b136 hA H hD
      refine (hM _ _ _ _).2 ?_
      refine m_many [8, 11] fun i_ hi_ => ?_
      simp only [List.mem_cons, List.not_mem_nil, or_false] at hi_
      rcases hi_ with rfl | rfl
      · skip
        refine q_call 8 47 38 #[.tmp 45, .tmp 46] #[29, 3] [.agg #[va, ea], .int .i64 x] (fun S v w' => Rd S w' v ((A, dropL B x))) [(3, .int .i64 x), (4, .pointer (some ⟨b2, 0, none⟩)), (5, .pointer (some ⟨b4, 0, none⟩)), (6, .pointer (some ⟨b6, 0, none⟩)), (9, .pointer (some ⟨b71, 0, none⟩)), (10, .pointer (some ⟨b136, 0, none⟩)), (41, .agg #[v17a, v17b]), (44, .agg #[v28a, v28b])] hA H (by exact drop_any va ea A B x H.at ((H.arg gA)) ((H.arg gB)) (by omega) (by omega)) fun v335 a w336 S hR337 H hA hG => ?_
        obtain ⟨v335a, v335b, rfl, hR337a, hR337b⟩ := two_rd hR337
        replace H := H.ro hR337a; replace H := H.ro hR337b
        replace H : Fr _ _ _ [.ro v335b (dropL B x), .ro v335a A, .box b136 29 [(.slice none 0 0), (.slice none 0 0)], .box b71 29 [(.slice none 0 0), (.slice none 0 0)], .ro v28b (mergeL B D 1), .ro v28a (mergeL A C 1), .ro v17b (mergeL B D 2), .ro v17a (mergeL A C 2), .box b6 29 [vb, eb], .box b4 29 [va, ea], .box b2 24 [.int .i64 n, ve]] := H
        replace H : Fr _ _ _ [.box b136 29 [(.slice none 0 0), (.slice none 0 0)], .box b71 29 [(.slice none 0 0), (.slice none 0 0)], .ro v335b (dropL B x), .ro v335a A, .ro v28b (mergeL B D 1), .ro v28a (mergeL A C 1), .ro v17b (mergeL B D 2), .ro v17a (mergeL A C 2), .box b6 29 [vb, eb], .box b4 29 [va, ea], .box b2 24 [.int .i64 n, ve]] := H.sink 2 2
        replace hD := hD.below hG
        refine ⟨fun _ => hD, ?_⟩
        exact (hM _ _ _ _).1 (hM238 _ _ _ v17a v17b v28a v28b v335a v335b b71 hge_b71 b136 hge_b136 (env_sub _ hA) H hD)
      · skip
        refine q_alloc 11 11 29 [(.slice none 0 0), (.slice none 0 0)] [(3, .int .i64 x), (4, .pointer (some ⟨b2, 0, none⟩)), (5, .pointer (some ⟨b4, 0, none⟩)), (6, .pointer (some ⟨b6, 0, none⟩)), (9, .pointer (some ⟨b71, 0, none⟩)), (10, .pointer (some ⟨b136, 0, none⟩)), (41, .agg #[v17a, v17b]), (44, .agg #[v28a, v28b]), (45, .agg #[va, ea]), (46, .int .i64 x)] hA H fun b340 a w341 H hA hG hge_b340 => ?_
        replace hge_b340 := Nat.le_trans hD.1 hge_b340
        replace hD := hD.below hG
        refine ⟨fun _ => hD, ?_⟩
        exact (hM _ _ _ _).1 (hM241 _ _ _ v17a v17b v28a v28b b71 hge_b71 b136 hge_b136 b340 hge_b340 (env_sub _ hA) H hD)
    have hM246 : ∀ (a : Act) (w342 : World) (S : Stab) (v17a : Value) (v17b : Value) (v28a : Value) (v28b : Value) (b71 : Nat) (hge_b71 : w11.heap.size ≤ b71) (b138 : Nat) (hge_b138 : w11.heap.size ≤ b138), EnvOk 107 a (keepEnv [(3, .int .i64 x), (4, .pointer (some ⟨b2, 0, none⟩)), (5, .pointer (some ⟨b4, 0, none⟩)), (6, .pointer (some ⟨b6, 0, none⟩)), (9, .pointer (some ⟨b71, 0, none⟩)), (11, .pointer (some ⟨b138, 0, none⟩)), (41, .agg #[v17a, v17b]), (44, .agg #[v28a, v28b]), (45, .agg #[va, ea]), (46, .int .i64 x)]) → Fr (org w) w342 S [.box b138 29 [(.slice none 0 0), (.slice none 0 0)], .box b71 29 [(.slice none 0 0), (.slice none 0 0)], .ro v28b (mergeL B D 1), .ro v28a (mergeL A C 1), .ro v17b (mergeL B D 2), .ro v17a (mergeL A C 2), .box b6 29 [vb, eb], .box b4 29 [va, ea], .box b2 24 [.int .i64 n, ve]] → But w11 none w342 → M 5 #[true, true, true, true, true, true, true, true, false, true, false, true, false, false, false] a w342 := by
      intro a w342 S v17a v17b v28a v28b b71 hge_b71 b138 hge_b138 hA H hD
      refine (hM _ _ _ _).2 ?_
      refine m_many [8, 10] fun i_ hi_ => ?_
      simp only [List.mem_cons, List.not_mem_nil, or_false] at hi_
      rcases hi_ with rfl | rfl
      · skip
        refine q_call 8 47 38 #[.tmp 45, .tmp 46] #[29, 3] [.agg #[va, ea], .int .i64 x] (fun S v w' => Rd S w' v ((A, dropL B x))) [(3, .int .i64 x), (4, .pointer (some ⟨b2, 0, none⟩)), (5, .pointer (some ⟨b4, 0, none⟩)), (6, .pointer (some ⟨b6, 0, none⟩)), (9, .pointer (some ⟨b71, 0, none⟩)), (11, .pointer (some ⟨b138, 0, none⟩)), (41, .agg #[v17a, v17b]), (44, .agg #[v28a, v28b])] hA H (by exact drop_any va ea A B x H.at ((H.arg gA)) ((H.arg gB)) (by omega) (by omega)) fun v343 a w344 S hR345 H hA hG => ?_
        obtain ⟨v343a, v343b, rfl, hR345a, hR345b⟩ := two_rd hR345
        replace H := H.ro hR345a; replace H := H.ro hR345b
        replace H : Fr _ _ _ [.ro v343b (dropL B x), .ro v343a A, .box b138 29 [(.slice none 0 0), (.slice none 0 0)], .box b71 29 [(.slice none 0 0), (.slice none 0 0)], .ro v28b (mergeL B D 1), .ro v28a (mergeL A C 1), .ro v17b (mergeL B D 2), .ro v17a (mergeL A C 2), .box b6 29 [vb, eb], .box b4 29 [va, ea], .box b2 24 [.int .i64 n, ve]] := H
        replace H : Fr _ _ _ [.box b138 29 [(.slice none 0 0), (.slice none 0 0)], .box b71 29 [(.slice none 0 0), (.slice none 0 0)], .ro v343b (dropL B x), .ro v343a A, .ro v28b (mergeL B D 1), .ro v28a (mergeL A C 1), .ro v17b (mergeL B D 2), .ro v17a (mergeL A C 2), .box b6 29 [vb, eb], .box b4 29 [va, ea], .box b2 24 [.int .i64 n, ve]] := H.sink 2 2
        replace hD := hD.below hG
        refine ⟨fun _ => hD, ?_⟩
        exact (hM _ _ _ _).1 (hM239 _ _ _ v17a v17b v28a v28b v343a v343b b71 hge_b71 b138 hge_b138 (env_sub _ hA) H hD)
      · skip
        refine q_alloc 10 10 29 [(.slice none 0 0), (.slice none 0 0)] [(3, .int .i64 x), (4, .pointer (some ⟨b2, 0, none⟩)), (5, .pointer (some ⟨b4, 0, none⟩)), (6, .pointer (some ⟨b6, 0, none⟩)), (9, .pointer (some ⟨b71, 0, none⟩)), (11, .pointer (some ⟨b138, 0, none⟩)), (41, .agg #[v17a, v17b]), (44, .agg #[v28a, v28b]), (45, .agg #[va, ea]), (46, .int .i64 x)] hA H fun b348 a w349 H hA hG hge_b348 => ?_
        replace hge_b348 := Nat.le_trans hD.1 hge_b348
        replace H : Fr _ _ _ [.box b138 29 [(.slice none 0 0), (.slice none 0 0)], .box b348 29 [(.slice none 0 0), (.slice none 0 0)], .box b71 29 [(.slice none 0 0), (.slice none 0 0)], .ro v28b (mergeL B D 1), .ro v28a (mergeL A C 1), .ro v17b (mergeL B D 2), .ro v17a (mergeL A C 2), .box b6 29 [vb, eb], .box b4 29 [va, ea], .box b2 24 [.int .i64 n, ve]] := H.sink 1 1
        replace hD := hD.below hG
        refine ⟨fun _ => hD, ?_⟩
        exact (hM _ _ _ _).1 (hM241 _ _ _ v17a v17b v28a v28b b71 hge_b71 b348 hge_b348 b138 hge_b138 (env_sub _ hA) H hD)
    have hM247 : ∀ (a : Act) (w350 : World) (S : Stab) (v17a : Value) (v17b : Value) (v28a : Value) (v28b : Value) (b73 : Nat) (hge_b73 : w11.heap.size ≤ b73) (b147 : Nat) (hge_b147 : w11.heap.size ≤ b147), EnvOk 107 a (keepEnv [(3, .int .i64 x), (4, .pointer (some ⟨b2, 0, none⟩)), (5, .pointer (some ⟨b4, 0, none⟩)), (6, .pointer (some ⟨b6, 0, none⟩)), (10, .pointer (some ⟨b73, 0, none⟩)), (11, .pointer (some ⟨b147, 0, none⟩)), (41, .agg #[v17a, v17b]), (44, .agg #[v28a, v28b]), (45, .agg #[va, ea]), (46, .int .i64 x)]) → Fr (org w) w350 S [.box b147 29 [(.slice none 0 0), (.slice none 0 0)], .box b73 29 [(.slice none 0 0), (.slice none 0 0)], .ro v28b (mergeL B D 1), .ro v28a (mergeL A C 1), .ro v17b (mergeL B D 2), .ro v17a (mergeL A C 2), .box b6 29 [vb, eb], .box b4 29 [va, ea], .box b2 24 [.int .i64 n, ve]] → But w11 none w350 → M 5 #[true, true, true, true, true, true, true, true, false, false, true, true, false, false, false] a w350 := by
      intro a w350 S v17a v17b v28a v28b b73 hge_b73 b147 hge_b147 hA H hD
      refine (hM _ _ _ _).2 ?_
      refine m_many [8, 9] fun i_ hi_ => ?_
      simp only [List.mem_cons, List.not_mem_nil, or_false] at hi_
      rcases hi_ with rfl | rfl
      · skip
        refine q_call 8 47 38 #[.tmp 45, .tmp 46] #[29, 3] [.agg #[va, ea], .int .i64 x] (fun S v w' => Rd S w' v ((A, dropL B x))) [(3, .int .i64 x), (4, .pointer (some ⟨b2, 0, none⟩)), (5, .pointer (some ⟨b4, 0, none⟩)), (6, .pointer (some ⟨b6, 0, none⟩)), (10, .pointer (some ⟨b73, 0, none⟩)), (11, .pointer (some ⟨b147, 0, none⟩)), (41, .agg #[v17a, v17b]), (44, .agg #[v28a, v28b])] hA H (by exact drop_any va ea A B x H.at ((H.arg gA)) ((H.arg gB)) (by omega) (by omega)) fun v351 a w352 S hR353 H hA hG => ?_
        obtain ⟨v351a, v351b, rfl, hR353a, hR353b⟩ := two_rd hR353
        replace H := H.ro hR353a; replace H := H.ro hR353b
        replace H : Fr _ _ _ [.ro v351b (dropL B x), .ro v351a A, .box b147 29 [(.slice none 0 0), (.slice none 0 0)], .box b73 29 [(.slice none 0 0), (.slice none 0 0)], .ro v28b (mergeL B D 1), .ro v28a (mergeL A C 1), .ro v17b (mergeL B D 2), .ro v17a (mergeL A C 2), .box b6 29 [vb, eb], .box b4 29 [va, ea], .box b2 24 [.int .i64 n, ve]] := H
        replace H : Fr _ _ _ [.box b147 29 [(.slice none 0 0), (.slice none 0 0)], .box b73 29 [(.slice none 0 0), (.slice none 0 0)], .ro v351b (dropL B x), .ro v351a A, .ro v28b (mergeL B D 1), .ro v28a (mergeL A C 1), .ro v17b (mergeL B D 2), .ro v17a (mergeL A C 2), .box b6 29 [vb, eb], .box b4 29 [va, ea], .box b2 24 [.int .i64 n, ve]] := H.sink 2 2
        replace hD := hD.below hG
        refine ⟨fun _ => hD, ?_⟩
        exact (hM _ _ _ _).1 (hM240 _ _ _ v17a v17b v28a v28b v351a v351b b73 hge_b73 b147 hge_b147 (env_sub _ hA) H hD)
      · skip
        refine q_alloc 9 9 29 [(.slice none 0 0), (.slice none 0 0)] [(3, .int .i64 x), (4, .pointer (some ⟨b2, 0, none⟩)), (5, .pointer (some ⟨b4, 0, none⟩)), (6, .pointer (some ⟨b6, 0, none⟩)), (10, .pointer (some ⟨b73, 0, none⟩)), (11, .pointer (some ⟨b147, 0, none⟩)), (41, .agg #[v17a, v17b]), (44, .agg #[v28a, v28b]), (45, .agg #[va, ea]), (46, .int .i64 x)] hA H fun b356 a w357 H hA hG hge_b356 => ?_
        replace hge_b356 := Nat.le_trans hD.1 hge_b356
        replace H : Fr _ _ _ [.box b147 29 [(.slice none 0 0), (.slice none 0 0)], .box b73 29 [(.slice none 0 0), (.slice none 0 0)], .box b356 29 [(.slice none 0 0), (.slice none 0 0)], .ro v28b (mergeL B D 1), .ro v28a (mergeL A C 1), .ro v17b (mergeL B D 2), .ro v17a (mergeL A C 2), .box b6 29 [vb, eb], .box b4 29 [va, ea], .box b2 24 [.int .i64 n, ve]] := H.sink 1 2
        replace hD := hD.below hG
        refine ⟨fun _ => hD, ?_⟩
        exact (hM _ _ _ _).1 (hM241 _ _ _ v17a v17b v28a v28b b356 hge_b356 b73 hge_b73 b147 hge_b147 (env_sub _ hA) H hD)
    have hM248 : ∀ (a : Act) (w358 : World) (S : Stab) (v17a : Value) (v17b : Value) (b33 : Nat) (hge_b33 : w11.heap.size ≤ b33) (b82 : Nat) (hge_b82 : w11.heap.size ≤ b82) (b163 : Nat) (hge_b163 : w11.heap.size ≤ b163), EnvOk 107 a (keepEnv [(3, .int .i64 x), (4, .pointer (some ⟨b2, 0, none⟩)), (5, .pointer (some ⟨b4, 0, none⟩)), (6, .pointer (some ⟨b6, 0, none⟩)), (9, .pointer (some ⟨b33, 0, none⟩)), (10, .pointer (some ⟨b82, 0, none⟩)), (11, .pointer (some ⟨b163, 0, none⟩)), (41, .agg #[v17a, v17b]), (42, .agg #[va, ea]), (43, .agg #[vb, eb]), (45, .agg #[va, ea]), (46, .int .i64 x)]) → Fr (org w) w358 S [.box b163 29 [(.slice none 0 0), (.slice none 0 0)], .box b82 29 [(.slice none 0 0), (.slice none 0 0)], .box b33 29 [(.slice none 0 0), (.slice none 0 0)], .ro v17b (mergeL B D 2), .ro v17a (mergeL A C 2), .box b6 29 [vb, eb], .box b4 29 [va, ea], .box b2 24 [.int .i64 n, ve]] → But w11 none w358 → M 5 #[true, true, true, true, true, false, true, true, false, true, true, true, false, false, false] a w358 := by
      intro a w358 S v17a v17b b33 hge_b33 b82 hge_b82 b163 hge_b163 hA H hD
      refine (hM _ _ _ _).2 ?_
      refine m_one 5 ?_; refine q_call 5 44 40 #[.tmp 42, .tmp 43] #[29, 29] [.agg #[va, ea], .agg #[vb, eb]] (fun S v w' => Rd S w' v ((mergeL A C 1, mergeL B D 1))) [(3, .int .i64 x), (4, .pointer (some ⟨b2, 0, none⟩)), (5, .pointer (some ⟨b4, 0, none⟩)), (6, .pointer (some ⟨b6, 0, none⟩)), (9, .pointer (some ⟨b33, 0, none⟩)), (10, .pointer (some ⟨b82, 0, none⟩)), (11, .pointer (some ⟨b163, 0, none⟩)), (41, .agg #[v17a, v17b]), (45, .agg #[va, ea]), (46, .int .i64 x)] hA H (by exact or_any va ea vb eb A B C D H.at ((H.arg gA)) ((H.arg gB)) ((H.arg gC)) ((H.arg gD)) (by (try simp only [List.length_cons, List.length_nil]); omega) (by (try simp only [List.length_cons, List.length_nil]); omega)) fun v359 a w360 S hR361 H hA hG => ?_
      obtain ⟨v359a, v359b, rfl, hR361a, hR361b⟩ := two_rd hR361
      replace H := H.ro hR361a; replace H := H.ro hR361b
      replace H : Fr _ _ _ [.ro v359b (mergeL B D 1), .ro v359a (mergeL A C 1), .box b163 29 [(.slice none 0 0), (.slice none 0 0)], .box b82 29 [(.slice none 0 0), (.slice none 0 0)], .box b33 29 [(.slice none 0 0), (.slice none 0 0)], .ro v17b (mergeL B D 2), .ro v17a (mergeL A C 2), .box b6 29 [vb, eb], .box b4 29 [va, ea], .box b2 24 [.int .i64 n, ve]] := H
      replace H : Fr _ _ _ [.box b163 29 [(.slice none 0 0), (.slice none 0 0)], .box b82 29 [(.slice none 0 0), (.slice none 0 0)], .box b33 29 [(.slice none 0 0), (.slice none 0 0)], .ro v359b (mergeL B D 1), .ro v359a (mergeL A C 1), .ro v17b (mergeL B D 2), .ro v17a (mergeL A C 2), .box b6 29 [vb, eb], .box b4 29 [va, ea], .box b2 24 [.int .i64 n, ve]] := H.sink 2 3
      replace hD := hD.below hG
      refine ⟨fun _ => hD, ?_⟩
      exact (hM _ _ _ _).1 (hM241 _ _ _ v17a v17b v359a v359b b33 hge_b33 b82 hge_b82 b163 hge_b163 (env_sub _ hA) H hD)
    have hM249 : ∀ (a : Act) (w364 : World) (S : Stab) (v17a : Value) (v17b : Value) (v28a : Value) (v28b : Value) (v66a : Value) (v66b : Value), EnvOk 107 a (keepEnv [(3, .int .i64 x), (4, .pointer (some ⟨b2, 0, none⟩)), (5, .pointer (some ⟨b4, 0, none⟩)), (6, .pointer (some ⟨b6, 0, none⟩)), (41, .agg #[v17a, v17b]), (44, .agg #[v28a, v28b]), (47, .agg #[v66a, v66b])]) → Fr (org w) w364 S [.ro v66b (dropL B x), .ro v66a A, .ro v28b (mergeL B D 1), .ro v28a (mergeL A C 1), .ro v17b (mergeL B D 2), .ro v17a (mergeL A C 2), .box b6 29 [vb, eb], .box b4 29 [va, ea], .box b2 24 [.int .i64 n, ve]] → But w11 none w364 → M 6 #[true, true, true, true, true, true, true, true, true, false, false, false, false, false, false] a w364 := by
      intro a w364 S v17a v17b v28a v28b v66a v66b hA H hD
      refine (hM _ _ _ _).2 ?_
      refine m_many [9, 10, 11] fun i_ hi_ => ?_
      simp only [List.mem_cons, List.not_mem_nil, or_false] at hi_
      rcases hi_ with rfl | rfl | rfl
      · skip
        refine q_alloc 9 9 29 [(.slice none 0 0), (.slice none 0 0)] [(3, .int .i64 x), (4, .pointer (some ⟨b2, 0, none⟩)), (5, .pointer (some ⟨b4, 0, none⟩)), (6, .pointer (some ⟨b6, 0, none⟩)), (41, .agg #[v17a, v17b]), (44, .agg #[v28a, v28b]), (47, .agg #[v66a, v66b])] hA H fun b365 a w366 H hA hG hge_b365 => ?_
        replace hge_b365 := Nat.le_trans hD.1 hge_b365
        replace hD := hD.below hG
        refine ⟨fun _ => hD, ?_⟩
        exact (hM _ _ _ _).1 (hM242 _ _ _ v17a v17b v28a v28b v66a v66b b365 hge_b365 (env_sub _ hA) H hD)
      · skip
        refine q_alloc 10 10 29 [(.slice none 0 0), (.slice none 0 0)] [(3, .int .i64 x), (4, .pointer (some ⟨b2, 0, none⟩)), (5, .pointer (some ⟨b4, 0, none⟩)), (6, .pointer (some ⟨b6, 0, none⟩)), (41, .agg #[v17a, v17b]), (44, .agg #[v28a, v28b]), (47, .agg #[v66a, v66b])] hA H fun b367 a w368 H hA hG hge_b367 => ?_
        replace hge_b367 := Nat.le_trans hD.1 hge_b367
        replace hD := hD.below hG
        refine ⟨fun _ => hD, ?_⟩
        exact (hM _ _ _ _).1 (hM243 _ _ _ v17a v17b v28a v28b v66a v66b b367 hge_b367 (env_sub _ hA) H hD)
      · skip
        refine q_alloc 11 11 29 [(.slice none 0 0), (.slice none 0 0)] [(3, .int .i64 x), (4, .pointer (some ⟨b2, 0, none⟩)), (5, .pointer (some ⟨b4, 0, none⟩)), (6, .pointer (some ⟨b6, 0, none⟩)), (41, .agg #[v17a, v17b]), (44, .agg #[v28a, v28b]), (47, .agg #[v66a, v66b])] hA H fun b369 a w370 H hA hG hge_b369 => ?_
        replace hge_b369 := Nat.le_trans hD.1 hge_b369
        replace hD := hD.below hG
        refine ⟨fun _ => hD, ?_⟩
        exact (hM _ _ _ _).1 (hM244 _ _ _ v17a v17b v28a v28b v66a v66b b369 hge_b369 (env_sub _ hA) H hD)
    have hM250 : ∀ (a : Act) (w371 : World) (S : Stab) (v17a : Value) (v17b : Value) (v28a : Value) (v28b : Value) (b71 : Nat) (hge_b71 : w11.heap.size ≤ b71), EnvOk 107 a (keepEnv [(3, .int .i64 x), (4, .pointer (some ⟨b2, 0, none⟩)), (5, .pointer (some ⟨b4, 0, none⟩)), (6, .pointer (some ⟨b6, 0, none⟩)), (9, .pointer (some ⟨b71, 0, none⟩)), (41, .agg #[v17a, v17b]), (44, .agg #[v28a, v28b]), (45, .agg #[va, ea]), (46, .int .i64 x)]) → Fr (org w) w371 S [.box b71 29 [(.slice none 0 0), (.slice none 0 0)], .ro v28b (mergeL B D 1), .ro v28a (mergeL A C 1), .ro v17b (mergeL B D 2), .ro v17a (mergeL A C 2), .box b6 29 [vb, eb], .box b4 29 [va, ea], .box b2 24 [.int .i64 n, ve]] → But w11 none w371 → M 6 #[true, true, true, true, true, true, true, true, false, true, false, false, false, false, false] a w371 := by
      intro a w371 S v17a v17b v28a v28b b71 hge_b71 hA H hD
      refine (hM _ _ _ _).2 ?_
      refine m_many [8, 10, 11] fun i_ hi_ => ?_
      simp only [List.mem_cons, List.not_mem_nil, or_false] at hi_
      rcases hi_ with rfl | rfl | rfl
      · skip
        refine q_call 8 47 38 #[.tmp 45, .tmp 46] #[29, 3] [.agg #[va, ea], .int .i64 x] (fun S v w' => Rd S w' v ((A, dropL B x))) [(3, .int .i64 x), (4, .pointer (some ⟨b2, 0, none⟩)), (5, .pointer (some ⟨b4, 0, none⟩)), (6, .pointer (some ⟨b6, 0, none⟩)), (9, .pointer (some ⟨b71, 0, none⟩)), (41, .agg #[v17a, v17b]), (44, .agg #[v28a, v28b])] hA H (by exact drop_any va ea A B x H.at ((H.arg gA)) ((H.arg gB)) (by omega) (by omega)) fun v372 a w373 S hR374 H hA hG => ?_
        obtain ⟨v372a, v372b, rfl, hR374a, hR374b⟩ := two_rd hR374
        replace H := H.ro hR374a; replace H := H.ro hR374b
        replace H : Fr _ _ _ [.ro v372b (dropL B x), .ro v372a A, .box b71 29 [(.slice none 0 0), (.slice none 0 0)], .ro v28b (mergeL B D 1), .ro v28a (mergeL A C 1), .ro v17b (mergeL B D 2), .ro v17a (mergeL A C 2), .box b6 29 [vb, eb], .box b4 29 [va, ea], .box b2 24 [.int .i64 n, ve]] := H
        replace H : Fr _ _ _ [.box b71 29 [(.slice none 0 0), (.slice none 0 0)], .ro v372b (dropL B x), .ro v372a A, .ro v28b (mergeL B D 1), .ro v28a (mergeL A C 1), .ro v17b (mergeL B D 2), .ro v17a (mergeL A C 2), .box b6 29 [vb, eb], .box b4 29 [va, ea], .box b2 24 [.int .i64 n, ve]] := H.sink 2 1
        replace hD := hD.below hG
        refine ⟨fun _ => hD, ?_⟩
        exact (hM _ _ _ _).1 (hM242 _ _ _ v17a v17b v28a v28b v372a v372b b71 hge_b71 (env_sub _ hA) H hD)
      · skip
        refine q_alloc 10 10 29 [(.slice none 0 0), (.slice none 0 0)] [(3, .int .i64 x), (4, .pointer (some ⟨b2, 0, none⟩)), (5, .pointer (some ⟨b4, 0, none⟩)), (6, .pointer (some ⟨b6, 0, none⟩)), (9, .pointer (some ⟨b71, 0, none⟩)), (41, .agg #[v17a, v17b]), (44, .agg #[v28a, v28b]), (45, .agg #[va, ea]), (46, .int .i64 x)] hA H fun b377 a w378 H hA hG hge_b377 => ?_
        replace hge_b377 := Nat.le_trans hD.1 hge_b377
        replace hD := hD.below hG
        refine ⟨fun _ => hD, ?_⟩
        exact (hM _ _ _ _).1 (hM245 _ _ _ v17a v17b v28a v28b b71 hge_b71 b377 hge_b377 (env_sub _ hA) H hD)
      · skip
        refine q_alloc 11 11 29 [(.slice none 0 0), (.slice none 0 0)] [(3, .int .i64 x), (4, .pointer (some ⟨b2, 0, none⟩)), (5, .pointer (some ⟨b4, 0, none⟩)), (6, .pointer (some ⟨b6, 0, none⟩)), (9, .pointer (some ⟨b71, 0, none⟩)), (41, .agg #[v17a, v17b]), (44, .agg #[v28a, v28b]), (45, .agg #[va, ea]), (46, .int .i64 x)] hA H fun b379 a w380 H hA hG hge_b379 => ?_
        replace hge_b379 := Nat.le_trans hD.1 hge_b379
        replace hD := hD.below hG
        refine ⟨fun _ => hD, ?_⟩
        exact (hM _ _ _ _).1 (hM246 _ _ _ v17a v17b v28a v28b b71 hge_b71 b379 hge_b379 (env_sub _ hA) H hD)
    have hM251 : ∀ (a : Act) (w381 : World) (S : Stab) (v17a : Value) (v17b : Value) (v28a : Value) (v28b : Value) (b73 : Nat) (hge_b73 : w11.heap.size ≤ b73), EnvOk 107 a (keepEnv [(3, .int .i64 x), (4, .pointer (some ⟨b2, 0, none⟩)), (5, .pointer (some ⟨b4, 0, none⟩)), (6, .pointer (some ⟨b6, 0, none⟩)), (10, .pointer (some ⟨b73, 0, none⟩)), (41, .agg #[v17a, v17b]), (44, .agg #[v28a, v28b]), (45, .agg #[va, ea]), (46, .int .i64 x)]) → Fr (org w) w381 S [.box b73 29 [(.slice none 0 0), (.slice none 0 0)], .ro v28b (mergeL B D 1), .ro v28a (mergeL A C 1), .ro v17b (mergeL B D 2), .ro v17a (mergeL A C 2), .box b6 29 [vb, eb], .box b4 29 [va, ea], .box b2 24 [.int .i64 n, ve]] → But w11 none w381 → M 6 #[true, true, true, true, true, true, true, true, false, false, true, false, false, false, false] a w381 := by
      intro a w381 S v17a v17b v28a v28b b73 hge_b73 hA H hD
      refine (hM _ _ _ _).2 ?_
      refine m_many [8, 9, 11] fun i_ hi_ => ?_
      simp only [List.mem_cons, List.not_mem_nil, or_false] at hi_
      rcases hi_ with rfl | rfl | rfl
      · skip
        refine q_call 8 47 38 #[.tmp 45, .tmp 46] #[29, 3] [.agg #[va, ea], .int .i64 x] (fun S v w' => Rd S w' v ((A, dropL B x))) [(3, .int .i64 x), (4, .pointer (some ⟨b2, 0, none⟩)), (5, .pointer (some ⟨b4, 0, none⟩)), (6, .pointer (some ⟨b6, 0, none⟩)), (10, .pointer (some ⟨b73, 0, none⟩)), (41, .agg #[v17a, v17b]), (44, .agg #[v28a, v28b])] hA H (by exact drop_any va ea A B x H.at ((H.arg gA)) ((H.arg gB)) (by omega) (by omega)) fun v382 a w383 S hR384 H hA hG => ?_
        obtain ⟨v382a, v382b, rfl, hR384a, hR384b⟩ := two_rd hR384
        replace H := H.ro hR384a; replace H := H.ro hR384b
        replace H : Fr _ _ _ [.ro v382b (dropL B x), .ro v382a A, .box b73 29 [(.slice none 0 0), (.slice none 0 0)], .ro v28b (mergeL B D 1), .ro v28a (mergeL A C 1), .ro v17b (mergeL B D 2), .ro v17a (mergeL A C 2), .box b6 29 [vb, eb], .box b4 29 [va, ea], .box b2 24 [.int .i64 n, ve]] := H
        replace H : Fr _ _ _ [.box b73 29 [(.slice none 0 0), (.slice none 0 0)], .ro v382b (dropL B x), .ro v382a A, .ro v28b (mergeL B D 1), .ro v28a (mergeL A C 1), .ro v17b (mergeL B D 2), .ro v17a (mergeL A C 2), .box b6 29 [vb, eb], .box b4 29 [va, ea], .box b2 24 [.int .i64 n, ve]] := H.sink 2 1
        replace hD := hD.below hG
        refine ⟨fun _ => hD, ?_⟩
        exact (hM _ _ _ _).1 (hM243 _ _ _ v17a v17b v28a v28b v382a v382b b73 hge_b73 (env_sub _ hA) H hD)
      · skip
        refine q_alloc 9 9 29 [(.slice none 0 0), (.slice none 0 0)] [(3, .int .i64 x), (4, .pointer (some ⟨b2, 0, none⟩)), (5, .pointer (some ⟨b4, 0, none⟩)), (6, .pointer (some ⟨b6, 0, none⟩)), (10, .pointer (some ⟨b73, 0, none⟩)), (41, .agg #[v17a, v17b]), (44, .agg #[v28a, v28b]), (45, .agg #[va, ea]), (46, .int .i64 x)] hA H fun b387 a w388 H hA hG hge_b387 => ?_
        replace hge_b387 := Nat.le_trans hD.1 hge_b387
        replace H : Fr _ _ _ [.box b73 29 [(.slice none 0 0), (.slice none 0 0)], .box b387 29 [(.slice none 0 0), (.slice none 0 0)], .ro v28b (mergeL B D 1), .ro v28a (mergeL A C 1), .ro v17b (mergeL B D 2), .ro v17a (mergeL A C 2), .box b6 29 [vb, eb], .box b4 29 [va, ea], .box b2 24 [.int .i64 n, ve]] := H.sink 1 1
        replace hD := hD.below hG
        refine ⟨fun _ => hD, ?_⟩
        exact (hM _ _ _ _).1 (hM245 _ _ _ v17a v17b v28a v28b b387 hge_b387 b73 hge_b73 (env_sub _ hA) H hD)
      · skip
        refine q_alloc 11 11 29 [(.slice none 0 0), (.slice none 0 0)] [(3, .int .i64 x), (4, .pointer (some ⟨b2, 0, none⟩)), (5, .pointer (some ⟨b4, 0, none⟩)), (6, .pointer (some ⟨b6, 0, none⟩)), (10, .pointer (some ⟨b73, 0, none⟩)), (41, .agg #[v17a, v17b]), (44, .agg #[v28a, v28b]), (45, .agg #[va, ea]), (46, .int .i64 x)] hA H fun b389 a w390 H hA hG hge_b389 => ?_
        replace hge_b389 := Nat.le_trans hD.1 hge_b389
        replace hD := hD.below hG
        refine ⟨fun _ => hD, ?_⟩
        exact (hM _ _ _ _).1 (hM247 _ _ _ v17a v17b v28a v28b b73 hge_b73 b389 hge_b389 (env_sub _ hA) H hD)
    have hM252 : ∀ (a : Act) (w391 : World) (S : Stab) (v17a : Value) (v17b : Value) (v28a : Value) (v28b : Value) (b75 : Nat) (hge_b75 : w11.heap.size ≤ b75), EnvOk 107 a (keepEnv [(3, .int .i64 x), (4, .pointer (some ⟨b2, 0, none⟩)), (5, .pointer (some ⟨b4, 0, none⟩)), (6, .pointer (some ⟨b6, 0, none⟩)), (11, .pointer (some ⟨b75, 0, none⟩)), (41, .agg #[v17a, v17b]), (44, .agg #[v28a, v28b]), (45, .agg #[va, ea]), (46, .int .i64 x)]) → Fr (org w) w391 S [.box b75 29 [(.slice none 0 0), (.slice none 0 0)], .ro v28b (mergeL B D 1), .ro v28a (mergeL A C 1), .ro v17b (mergeL B D 2), .ro v17a (mergeL A C 2), .box b6 29 [vb, eb], .box b4 29 [va, ea], .box b2 24 [.int .i64 n, ve]] → But w11 none w391 → M 6 #[true, true, true, true, true, true, true, true, false, false, false, true, false, false, false] a w391 := by
      intro a w391 S v17a v17b v28a v28b b75 hge_b75 hA H hD
      refine (hM _ _ _ _).2 ?_
      refine m_many [8, 9, 10] fun i_ hi_ => ?_
      simp only [List.mem_cons, List.not_mem_nil, or_false] at hi_
      rcases hi_ with rfl | rfl | rfl
      · skip
        refine q_call 8 47 38 #[.tmp 45, .tmp 46] #[29, 3] [.agg #[va, ea], .int .i64 x] (fun S v w' => Rd S w' v ((A, dropL B x))) [(3, .int .i64 x), (4, .pointer (some ⟨b2, 0, none⟩)), (5, .pointer (some ⟨b4, 0, none⟩)), (6, .pointer (some ⟨b6, 0, none⟩)), (11, .pointer (some ⟨b75, 0, none⟩)), (41, .agg #[v17a, v17b]), (44, .agg #[v28a, v28b])] hA H (by exact drop_any va ea A B x H.at ((H.arg gA)) ((H.arg gB)) (by omega) (by omega)) fun v392 a w393 S hR394 H hA hG => ?_
        obtain ⟨v392a, v392b, rfl, hR394a, hR394b⟩ := two_rd hR394
        replace H := H.ro hR394a; replace H := H.ro hR394b
        replace H : Fr _ _ _ [.ro v392b (dropL B x), .ro v392a A, .box b75 29 [(.slice none 0 0), (.slice none 0 0)], .ro v28b (mergeL B D 1), .ro v28a (mergeL A C 1), .ro v17b (mergeL B D 2), .ro v17a (mergeL A C 2), .box b6 29 [vb, eb], .box b4 29 [va, ea], .box b2 24 [.int .i64 n, ve]] := H
        replace H : Fr _ _ _ [.box b75 29 [(.slice none 0 0), (.slice none 0 0)], .ro v392b (dropL B x), .ro v392a A, .ro v28b (mergeL B D 1), .ro v28a (mergeL A C 1), .ro v17b (mergeL B D 2), .ro v17a (mergeL A C 2), .box b6 29 [vb, eb], .box b4 29 [va, ea], .box b2 24 [.int .i64 n, ve]] := H.sink 2 1
        replace hD := hD.below hG
        refine ⟨fun _ => hD, ?_⟩
        exact (hM _ _ _ _).1 (hM244 _ _ _ v17a v17b v28a v28b v392a v392b b75 hge_b75 (env_sub _ hA) H hD)
      · skip
        refine q_alloc 9 9 29 [(.slice none 0 0), (.slice none 0 0)] [(3, .int .i64 x), (4, .pointer (some ⟨b2, 0, none⟩)), (5, .pointer (some ⟨b4, 0, none⟩)), (6, .pointer (some ⟨b6, 0, none⟩)), (11, .pointer (some ⟨b75, 0, none⟩)), (41, .agg #[v17a, v17b]), (44, .agg #[v28a, v28b]), (45, .agg #[va, ea]), (46, .int .i64 x)] hA H fun b397 a w398 H hA hG hge_b397 => ?_
        replace hge_b397 := Nat.le_trans hD.1 hge_b397
        replace H : Fr _ _ _ [.box b75 29 [(.slice none 0 0), (.slice none 0 0)], .box b397 29 [(.slice none 0 0), (.slice none 0 0)], .ro v28b (mergeL B D 1), .ro v28a (mergeL A C 1), .ro v17b (mergeL B D 2), .ro v17a (mergeL A C 2), .box b6 29 [vb, eb], .box b4 29 [va, ea], .box b2 24 [.int .i64 n, ve]] := H.sink 1 1
        replace hD := hD.below hG
        refine ⟨fun _ => hD, ?_⟩
        exact (hM _ _ _ _).1 (hM246 _ _ _ v17a v17b v28a v28b b397 hge_b397 b75 hge_b75 (env_sub _ hA) H hD)
      · skip
        refine q_alloc 10 10 29 [(.slice none 0 0), (.slice none 0 0)] [(3, .int .i64 x), (4, .pointer (some ⟨b2, 0, none⟩)), (5, .pointer (some ⟨b4, 0, none⟩)), (6, .pointer (some ⟨b6, 0, none⟩)), (11, .pointer (some ⟨b75, 0, none⟩)), (41, .agg #[v17a, v17b]), (44, .agg #[v28a, v28b]), (45, .agg #[va, ea]), (46, .int .i64 x)] hA H fun b399 a w400 H hA hG hge_b399 => ?_
        replace hge_b399 := Nat.le_trans hD.1 hge_b399
        replace H : Fr _ _ _ [.box b75 29 [(.slice none 0 0), (.slice none 0 0)], .box b399 29 [(.slice none 0 0), (.slice none 0 0)], .ro v28b (mergeL B D 1), .ro v28a (mergeL A C 1), .ro v17b (mergeL B D 2), .ro v17a (mergeL A C 2), .box b6 29 [vb, eb], .box b4 29 [va, ea], .box b2 24 [.int .i64 n, ve]] := H.sink 1 1
        replace hD := hD.below hG
        refine ⟨fun _ => hD, ?_⟩
        exact (hM _ _ _ _).1 (hM247 _ _ _ v17a v17b v28a v28b b399 hge_b399 b75 hge_b75 (env_sub _ hA) H hD)
    have hM253 : ∀ (a : Act) (w401 : World) (S : Stab) (v17a : Value) (v17b : Value) (b33 : Nat) (hge_b33 : w11.heap.size ≤ b33) (b82 : Nat) (hge_b82 : w11.heap.size ≤ b82), EnvOk 107 a (keepEnv [(3, .int .i64 x), (4, .pointer (some ⟨b2, 0, none⟩)), (5, .pointer (some ⟨b4, 0, none⟩)), (6, .pointer (some ⟨b6, 0, none⟩)), (9, .pointer (some ⟨b33, 0, none⟩)), (10, .pointer (some ⟨b82, 0, none⟩)), (41, .agg #[v17a, v17b]), (42, .agg #[va, ea]), (43, .agg #[vb, eb]), (45, .agg #[va, ea]), (46, .int .i64 x)]) → Fr (org w) w401 S [.box b82 29 [(.slice none 0 0), (.slice none 0 0)], .box b33 29 [(.slice none 0 0), (.slice none 0 0)], .ro v17b (mergeL B D 2), .ro v17a (mergeL A C 2), .box b6 29 [vb, eb], .box b4 29 [va, ea], .box b2 24 [.int .i64 n, ve]] → But w11 none w401 → M 6 #[true, true, true, true, true, false, true, true, false, true, true, false, false, false, false] a w401 := by
      intro a w401 S v17a v17b b33 hge_b33 b82 hge_b82 hA H hD
      refine (hM _ _ _ _).2 ?_
      refine m_many [5, 11] fun i_ hi_ => ?_
      simp only [List.mem_cons, List.not_mem_nil, or_false] at hi_
      rcases hi_ with rfl | rfl
      · skip
        refine q_call 5 44 40 #[.tmp 42, .tmp 43] #[29, 29] [.agg #[va, ea], .agg #[vb, eb]] (fun S v w' => Rd S w' v ((mergeL A C 1, mergeL B D 1))) [(3, .int .i64 x), (4, .pointer (some ⟨b2, 0, none⟩)), (5, .pointer (some ⟨b4, 0, none⟩)), (6, .pointer (some ⟨b6, 0, none⟩)), (9, .pointer (some ⟨b33, 0, none⟩)), (10, .pointer (some ⟨b82, 0, none⟩)), (41, .agg #[v17a, v17b]), (45, .agg #[va, ea]), (46, .int .i64 x)] hA H (by exact or_any va ea vb eb A B C D H.at ((H.arg gA)) ((H.arg gB)) ((H.arg gC)) ((H.arg gD)) (by (try simp only [List.length_cons, List.length_nil]); omega) (by (try simp only [List.length_cons, List.length_nil]); omega)) fun v402 a w403 S hR404 H hA hG => ?_
        obtain ⟨v402a, v402b, rfl, hR404a, hR404b⟩ := two_rd hR404
        replace H := H.ro hR404a; replace H := H.ro hR404b
        replace H : Fr _ _ _ [.ro v402b (mergeL B D 1), .ro v402a (mergeL A C 1), .box b82 29 [(.slice none 0 0), (.slice none 0 0)], .box b33 29 [(.slice none 0 0), (.slice none 0 0)], .ro v17b (mergeL B D 2), .ro v17a (mergeL A C 2), .box b6 29 [vb, eb], .box b4 29 [va, ea], .box b2 24 [.int .i64 n, ve]] := H
        replace H : Fr _ _ _ [.box b82 29 [(.slice none 0 0), (.slice none 0 0)], .box b33 29 [(.slice none 0 0), (.slice none 0 0)], .ro v402b (mergeL B D 1), .ro v402a (mergeL A C 1), .ro v17b (mergeL B D 2), .ro v17a (mergeL A C 2), .box b6 29 [vb, eb], .box b4 29 [va, ea], .box b2 24 [.int .i64 n, ve]] := H.sink 2 2
        replace hD := hD.below hG
        refine ⟨fun _ => hD, ?_⟩
        exact (hM _ _ _ _).1 (hM245 _ _ _ v17a v17b v402a v402b b33 hge_b33 b82 hge_b82 (env_sub _ hA) H hD)
      · skip
        refine q_alloc 11 11 29 [(.slice none 0 0), (.slice none 0 0)] [(3, .int .i64 x), (4, .pointer (some ⟨b2, 0, none⟩)), (5, .pointer (some ⟨b4, 0, none⟩)), (6, .pointer (some ⟨b6, 0, none⟩)), (9, .pointer (some ⟨b33, 0, none⟩)), (10, .pointer (some ⟨b82, 0, none⟩)), (41, .agg #[v17a, v17b]), (42, .agg #[va, ea]), (43, .agg #[vb, eb]), (45, .agg #[va, ea]), (46, .int .i64 x)] hA H fun b407 a w408 H hA hG hge_b407 => ?_
        replace hge_b407 := Nat.le_trans hD.1 hge_b407
        replace hD := hD.below hG
        refine ⟨fun _ => hD, ?_⟩
        exact (hM _ _ _ _).1 (hM248 _ _ _ v17a v17b b33 hge_b33 b82 hge_b82 b407 hge_b407 (env_sub _ hA) H hD)
    have hM254 : ∀ (a : Act) (w409 : World) (S : Stab) (v17a : Value) (v17b : Value) (b33 : Nat) (hge_b33 : w11.heap.size ≤ b33) (b84 : Nat) (hge_b84 : w11.heap.size ≤ b84), EnvOk 107 a (keepEnv [(3, .int .i64 x), (4, .pointer (some ⟨b2, 0, none⟩)), (5, .pointer (some ⟨b4, 0, none⟩)), (6, .pointer (some ⟨b6, 0, none⟩)), (9, .pointer (some ⟨b33, 0, none⟩)), (11, .pointer (some ⟨b84, 0, none⟩)), (41, .agg #[v17a, v17b]), (42, .agg #[va, ea]), (43, .agg #[vb, eb]), (45, .agg #[va, ea]), (46, .int .i64 x)]) → Fr (org w) w409 S [.box b84 29 [(.slice none 0 0), (.slice none 0 0)], .box b33 29 [(.slice none 0 0), (.slice none 0 0)], .ro v17b (mergeL B D 2), .ro v17a (mergeL A C 2), .box b6 29 [vb, eb], .box b4 29 [va, ea], .box b2 24 [.int .i64 n, ve]] → But w11 none w409 → M 6 #[true, true, true, true, true, false, true, true, false, true, false, true, false, false, false] a w409 := by
      intro a w409 S v17a v17b b33 hge_b33 b84 hge_b84 hA H hD
      refine (hM _ _ _ _).2 ?_
      refine m_many [5, 10] fun i_ hi_ => ?_
      simp only [List.mem_cons, List.not_mem_nil, or_false] at hi_
      rcases hi_ with rfl | rfl
      · skip
        refine q_call 5 44 40 #[.tmp 42, .tmp 43] #[29, 29] [.agg #[va, ea], .agg #[vb, eb]] (fun S v w' => Rd S w' v ((mergeL A C 1, mergeL B D 1))) [(3, .int .i64 x), (4, .pointer (some ⟨b2, 0, none⟩)), (5, .pointer (some ⟨b4, 0, none⟩)), (6, .pointer (some ⟨b6, 0, none⟩)), (9, .pointer (some ⟨b33, 0, none⟩)), (11, .pointer (some ⟨b84, 0, none⟩)), (41, .agg #[v17a, v17b]), (45, .agg #[va, ea]), (46, .int .i64 x)] hA H (by exact or_any va ea vb eb A B C D H.at ((H.arg gA)) ((H.arg gB)) ((H.arg gC)) ((H.arg gD)) (by (try simp only [List.length_cons, List.length_nil]); omega) (by (try simp only [List.length_cons, List.length_nil]); omega)) fun v410 a w411 S hR412 H hA hG => ?_
        obtain ⟨v410a, v410b, rfl, hR412a, hR412b⟩ := two_rd hR412
        replace H := H.ro hR412a; replace H := H.ro hR412b
        replace H : Fr _ _ _ [.ro v410b (mergeL B D 1), .ro v410a (mergeL A C 1), .box b84 29 [(.slice none 0 0), (.slice none 0 0)], .box b33 29 [(.slice none 0 0), (.slice none 0 0)], .ro v17b (mergeL B D 2), .ro v17a (mergeL A C 2), .box b6 29 [vb, eb], .box b4 29 [va, ea], .box b2 24 [.int .i64 n, ve]] := H
        replace H : Fr _ _ _ [.box b84 29 [(.slice none 0 0), (.slice none 0 0)], .box b33 29 [(.slice none 0 0), (.slice none 0 0)], .ro v410b (mergeL B D 1), .ro v410a (mergeL A C 1), .ro v17b (mergeL B D 2), .ro v17a (mergeL A C 2), .box b6 29 [vb, eb], .box b4 29 [va, ea], .box b2 24 [.int .i64 n, ve]] := H.sink 2 2
        replace hD := hD.below hG
        refine ⟨fun _ => hD, ?_⟩
        exact (hM _ _ _ _).1 (hM246 _ _ _ v17a v17b v410a v410b b33 hge_b33 b84 hge_b84 (env_sub _ hA) H hD)
      · skip
        refine q_alloc 10 10 29 [(.slice none 0 0), (.slice none 0 0)] [(3, .int .i64 x), (4, .pointer (some ⟨b2, 0, none⟩)), (5, .pointer (some ⟨b4, 0, none⟩)), (6, .pointer (some ⟨b6, 0, none⟩)), (9, .pointer (some ⟨b33, 0, none⟩)), (11, .pointer (some ⟨b84, 0, none⟩)), (41, .agg #[v17a, v17b]), (42, .agg #[va, ea]), (43, .agg #[vb, eb]), (45, .agg #[va, ea]), (46, .int .i64 x)] hA H fun b415 a w416 H hA hG hge_b415 => ?_
        replace hge_b415 := Nat.le_trans hD.1 hge_b415
        replace H : Fr _ _ _ [.box b84 29 [(.slice none 0 0), (.slice none 0 0)], .box b415 29 [(.slice none 0 0), (.slice none 0 0)], .box b33 29 [(.slice none 0 0), (.slice none 0 0)], .ro v17b (mergeL B D 2), .ro v17a (mergeL A C 2), .box b6 29 [vb, eb], .box b4 29 [va, ea], .box b2 24 [.int .i64 n, ve]] := H.sink 1 1
        replace hD := hD.below hG
        refine ⟨fun _ => hD, ?_⟩
        exact (hM _ _ _ _).1 (hM248 _ _ _ v17a v17b b33 hge_b33 b415 hge_b415 b84 hge_b84 (env_sub _ hA) H hD)
    have hM255 : ∀ (a : Act) (w417 : World) (S : Stab) (v17a : Value) (v17b : Value) (b35 : Nat) (hge_b35 : w11.heap.size ≤ b35) (b93 : Nat) (hge_b93 : w11.heap.size ≤ b93), EnvOk 107 a (keepEnv [(3, .int .i64 x), (4, .pointer (some ⟨b2, 0, none⟩)), (5, .pointer (some ⟨b4, 0, none⟩)), (6, .pointer (some ⟨b6, 0, none⟩)), (10, .pointer (some ⟨b35, 0, none⟩)), (11, .pointer (some ⟨b93, 0, none⟩)), (41, .agg #[v17a, v17b]), (42, .agg #[va, ea]), (43, .agg #[vb, eb]), (45, .agg #[va, ea]), (46, .int .i64 x)]) → Fr (org w) w417 S [.box b93 29 [(.slice none 0 0), (.slice none 0 0)], .box b35 29 [(.slice none 0 0), (.slice none 0 0)], .ro v17b (mergeL B D 2), .ro v17a (mergeL A C 2), .box b6 29 [vb, eb], .box b4 29 [va, ea], .box b2 24 [.int .i64 n, ve]] → But w11 none w417 → M 6 #[true, true, true, true, true, false, true, true, false, false, true, true, false, false, false] a w417 := by
      intro a w417 S v17a v17b b35 hge_b35 b93 hge_b93 hA H hD
      refine (hM _ _ _ _).2 ?_
      refine m_many [5, 9] fun i_ hi_ => ?_
      simp only [List.mem_cons, List.not_mem_nil, or_false] at hi_
      rcases hi_ with rfl | rfl
      · skip
        refine q_call 5 44 40 #[.tmp 42, .tmp 43] #[29, 29] [.agg #[va, ea], .agg #[vb, eb]] (fun S v w' => Rd S w' v ((mergeL A C 1, mergeL B D 1))) [(3, .int .i64 x), (4, .pointer (some ⟨b2, 0, none⟩)), (5, .pointer (some ⟨b4, 0, none⟩)), (6, .pointer (some ⟨b6, 0, none⟩)), (10, .pointer (some ⟨b35, 0, none⟩)), (11, .pointer (some ⟨b93, 0, none⟩)), (41, .agg #[v17a, v17b]), (45, .agg #[va, ea]), (46, .int .i64 x)] hA H (by exact or_any va ea vb eb A B C D H.at ((H.arg gA)) ((H.arg gB)) ((H.arg gC)) ((H.arg gD)) (by (try simp only [List.length_cons, List.length_nil]); omega) (by (try simp only [List.length_cons, List.length_nil]); omega)) fun v418 a w419 S hR420 H hA hG => ?_
        obtain ⟨v418a, v418b, rfl, hR420a, hR420b⟩ := two_rd hR420
        replace H := H.ro hR420a; replace H := H.ro hR420b
        replace H : Fr _ _ _ [.ro v418b (mergeL B D 1), .ro v418a (mergeL A C 1), .box b93 29 [(.slice none 0 0), (.slice none 0 0)], .box b35 29 [(.slice none 0 0), (.slice none 0 0)], .ro v17b (mergeL B D 2), .ro v17a (mergeL A C 2), .box b6 29 [vb, eb], .box b4 29 [va, ea], .box b2 24 [.int .i64 n, ve]] := H
        replace H : Fr _ _ _ [.box b93 29 [(.slice none 0 0), (.slice none 0 0)], .box b35 29 [(.slice none 0 0), (.slice none 0 0)], .ro v418b (mergeL B D 1), .ro v418a (mergeL A C 1), .ro v17b (mergeL B D 2), .ro v17a (mergeL A C 2), .box b6 29 [vb, eb], .box b4 29 [va, ea], .box b2 24 [.int .i64 n, ve]] := H.sink 2 2
        replace hD := hD.below hG
        refine ⟨fun _ => hD, ?_⟩
        exact (hM _ _ _ _).1 (hM247 _ _ _ v17a v17b v418a v418b b35 hge_b35 b93 hge_b93 (env_sub _ hA) H hD)
      · skip
        refine q_alloc 9 9 29 [(.slice none 0 0), (.slice none 0 0)] [(3, .int .i64 x), (4, .pointer (some ⟨b2, 0, none⟩)), (5, .pointer (some ⟨b4, 0, none⟩)), (6, .pointer (some ⟨b6, 0, none⟩)), (10, .pointer (some ⟨b35, 0, none⟩)), (11, .pointer (some ⟨b93, 0, none⟩)), (41, .agg #[v17a, v17b]), (42, .agg #[va, ea]), (43, .agg #[vb, eb]), (45, .agg #[va, ea]), (46, .int .i64 x)] hA H fun b423 a w424 H hA hG hge_b423 => ?_
        replace hge_b423 := Nat.le_trans hD.1 hge_b423
        replace H : Fr _ _ _ [.box b93 29 [(.slice none 0 0), (.slice none 0 0)], .box b35 29 [(.slice none 0 0), (.slice none 0 0)], .box b423 29 [(.slice none 0 0), (.slice none 0 0)], .ro v17b (mergeL B D 2), .ro v17a (mergeL A C 2), .box b6 29 [vb, eb], .box b4 29 [va, ea], .box b2 24 [.int .i64 n, ve]] := H.sink 1 2
        replace hD := hD.below hG
        refine ⟨fun _ => hD, ?_⟩
        exact (hM _ _ _ _).1 (hM248 _ _ _ v17a v17b b423 hge_b423 b35 hge_b35 b93 hge_b93 (env_sub _ hA) H hD)
    have hM256 : ∀ (a : Act) (w425 : World) (S : Stab) (b22 : Nat) (hge_b22 : w11.heap.size ≤ b22) (b44 : Nat) (hge_b44 : w11.heap.size ≤ b44) (b109 : Nat) (hge_b109 : w11.heap.size ≤ b109), EnvOk 107 a (keepEnv [(3, .int .i64 x), (4, .pointer (some ⟨b2, 0, none⟩)), (5, .pointer (some ⟨b4, 0, none⟩)), (6, .pointer (some ⟨b6, 0, none⟩)), (9, .pointer (some ⟨b22, 0, none⟩)), (10, .pointer (some ⟨b44, 0, none⟩)), (11, .pointer (some ⟨b109, 0, none⟩)), (39, .agg #[va, ea]), (40, .agg #[vb, eb]), (42, .agg #[va, ea]), (43, .agg #[vb, eb]), (45, .agg #[va, ea]), (46, .int .i64 x)]) → Fr (org w) w425 S [.box b109 29 [(.slice none 0 0), (.slice none 0 0)], .box b44 29 [(.slice none 0 0), (.slice none 0 0)], .box b22 29 [(.slice none 0 0), (.slice none 0 0)], .box b6 29 [vb, eb], .box b4 29 [va, ea], .box b2 24 [.int .i64 n, ve]] → But w11 none w425 → M 6 #[true, true, false, true, true, false, true, true, false, true, true, true, false, false, false] a w425 := by
      intro a w425 S b22 hge_b22 b44 hge_b44 b109 hge_b109 hA H hD
      refine (hM _ _ _ _).2 ?_
      refine m_one 2 ?_; refine q_call 2 41 42 #[.tmp 39, .tmp 40] #[29, 29] [.agg #[va, ea], .agg #[vb, eb]] (fun S v w' => Rd S w' v ((mergeL A C 2, mergeL B D 2))) [(3, .int .i64 x), (4, .pointer (some ⟨b2, 0, none⟩)), (5, .pointer (some ⟨b4, 0, none⟩)), (6, .pointer (some ⟨b6, 0, none⟩)), (9, .pointer (some ⟨b22, 0, none⟩)), (10, .pointer (some ⟨b44, 0, none⟩)), (11, .pointer (some ⟨b109, 0, none⟩)), (42, .agg #[va, ea]), (43, .agg #[vb, eb]), (45, .agg #[va, ea]), (46, .int .i64 x)] hA H (by exact and_any va ea vb eb A B C D H.at ((H.arg gA)) ((H.arg gB)) ((H.arg gC)) ((H.arg gD)) (by (try simp only [List.length_cons, List.length_nil]); omega) (by (try simp only [List.length_cons, List.length_nil]); omega)) fun v426 a w427 S hR428 H hA hG => ?_
      obtain ⟨v426a, v426b, rfl, hR428a, hR428b⟩ := two_rd hR428
      replace H := H.ro hR428a; replace H := H.ro hR428b
      replace H : Fr _ _ _ [.ro v426b (mergeL B D 2), .ro v426a (mergeL A C 2), .box b109 29 [(.slice none 0 0), (.slice none 0 0)], .box b44 29 [(.slice none 0 0), (.slice none 0 0)], .box b22 29 [(.slice none 0 0), (.slice none 0 0)], .box b6 29 [vb, eb], .box b4 29 [va, ea], .box b2 24 [.int .i64 n, ve]] := H
      replace H : Fr _ _ _ [.box b109 29 [(.slice none 0 0), (.slice none 0 0)], .box b44 29 [(.slice none 0 0), (.slice none 0 0)], .box b22 29 [(.slice none 0 0), (.slice none 0 0)], .ro v426b (mergeL B D 2), .ro v426a (mergeL A C 2), .box b6 29 [vb, eb], .box b4 29 [va, ea], .box b2 24 [.int .i64 n, ve]] := H.sink 2 3
      replace hD := hD.below hG
      refine ⟨fun _ => hD, ?_⟩
      exact (hM _ _ _ _).1 (hM248 _ _ _ v426a v426b b22 hge_b22 b44 hge_b44 b109 hge_b109 (env_sub _ hA) H hD)
    have hM257 : ∀ (a : Act) (w431 : World) (S : Stab) (v17a : Value) (v17b : Value) (v28a : Value) (v28b : Value), EnvOk 107 a (keepEnv [(3, .int .i64 x), (4, .pointer (some ⟨b2, 0, none⟩)), (5, .pointer (some ⟨b4, 0, none⟩)), (6, .pointer (some ⟨b6, 0, none⟩)), (41, .agg #[v17a, v17b]), (44, .agg #[v28a, v28b]), (45, .agg #[va, ea]), (46, .int .i64 x)]) → Fr (org w) w431 S [.ro v28b (mergeL B D 1), .ro v28a (mergeL A C 1), .ro v17b (mergeL B D 2), .ro v17a (mergeL A C 2), .box b6 29 [vb, eb], .box b4 29 [va, ea], .box b2 24 [.int .i64 n, ve]] → But w11 none w431 → M 7 #[true, true, true, true, true, true, true, true, false, false, false, false, false, false, false] a w431 := by
      intro a w431 S v17a v17b v28a v28b hA H hD
      refine (hM _ _ _ _).2 ?_
      refine m_many [8, 9, 10, 11] fun i_ hi_ => ?_
      simp only [List.mem_cons, List.not_mem_nil, or_false] at hi_
      rcases hi_ with rfl | rfl | rfl | rfl
      · skip
        refine q_call 8 47 38 #[.tmp 45, .tmp 46] #[29, 3] [.agg #[va, ea], .int .i64 x] (fun S v w' => Rd S w' v ((A, dropL B x))) [(3, .int .i64 x), (4, .pointer (some ⟨b2, 0, none⟩)), (5, .pointer (some ⟨b4, 0, none⟩)), (6, .pointer (some ⟨b6, 0, none⟩)), (41, .agg #[v17a, v17b]), (44, .agg #[v28a, v28b])] hA H (by exact drop_any va ea A B x H.at ((H.arg gA)) ((H.arg gB)) (by omega) (by omega)) fun v432 a w433 S hR434 H hA hG => ?_
        obtain ⟨v432a, v432b, rfl, hR434a, hR434b⟩ := two_rd hR434
        replace H := H.ro hR434a; replace H := H.ro hR434b
        replace H : Fr _ _ _ [.ro v432b (dropL B x), .ro v432a A, .ro v28b (mergeL B D 1), .ro v28a (mergeL A C 1), .ro v17b (mergeL B D 2), .ro v17a (mergeL A C 2), .box b6 29 [vb, eb], .box b4 29 [va, ea], .box b2 24 [.int .i64 n, ve]] := H
        replace hD := hD.below hG
        refine ⟨fun _ => hD, ?_⟩
        exact (hM _ _ _ _).1 (hM249 _ _ _ v17a v17b v28a v28b v432a v432b (env_sub _ hA) H hD)
      · skip
        refine q_alloc 9 9 29 [(.slice none 0 0), (.slice none 0 0)] [(3, .int .i64 x), (4, .pointer (some ⟨b2, 0, none⟩)), (5, .pointer (some ⟨b4, 0, none⟩)), (6, .pointer (some ⟨b6, 0, none⟩)), (41, .agg #[v17a, v17b]), (44, .agg #[v28a, v28b]), (45, .agg #[va, ea]), (46, .int .i64 x)] hA H fun b437 a w438 H hA hG hge_b437 => ?_
        replace hge_b437 := Nat.le_trans hD.1 hge_b437
        replace hD := hD.below hG
        refine ⟨fun _ => hD, ?_⟩
        exact (hM _ _ _ _).1 (hM250 _ _ _ v17a v17b v28a v28b b437 hge_b437 (env_sub _ hA) H hD)
      · skip
        refine q_alloc 10 10 29 [(.slice none 0 0), (.slice none 0 0)] [(3, .int .i64 x), (4, .pointer (some ⟨b2, 0, none⟩)), (5, .pointer (some ⟨b4, 0, none⟩)), (6, .pointer (some ⟨b6, 0, none⟩)), (41, .agg #[v17a, v17b]), (44, .agg #[v28a, v28b]), (45, .agg #[va, ea]), (46, .int .i64 x)] hA H fun b439 a w440 H hA hG hge_b439 => ?_
        replace hge_b439 := Nat.le_trans hD.1 hge_b439
        replace hD := hD.below hG
        refine ⟨fun _ => hD, ?_⟩
        exact (hM _ _ _ _).1 (hM251 _ _ _ v17a v17b v28a v28b b439 hge_b439 (env_sub _ hA) H hD)
      · skip
        refine q_alloc 11 11 29 [(.slice none 0 0), (.slice none 0 0)] [(3, .int .i64 x), (4, .pointer (some ⟨b2, 0, none⟩)), (5, .pointer (some ⟨b4, 0, none⟩)), (6, .pointer (some ⟨b6, 0, none⟩)), (41, .agg #[v17a, v17b]), (44, .agg #[v28a, v28b]), (45, .agg #[va, ea]), (46, .int .i64 x)] hA H fun b441 a w442 H hA hG hge_b441 => ?_
        replace hge_b441 := Nat.le_trans hD.1 hge_b441
        replace hD := hD.below hG
        refine ⟨fun _ => hD, ?_⟩
        exact (hM _ _ _ _).1 (hM252 _ _ _ v17a v17b v28a v28b b441 hge_b441 (env_sub _ hA) H hD)
    have hM258 : ∀ (a : Act) (w443 : World) (S : Stab) (v17a : Value) (v17b : Value) (b33 : Nat) (hge_b33 : w11.heap.size ≤ b33), EnvOk 107 a (keepEnv [(3, .int .i64 x), (4, .pointer (some ⟨b2, 0, none⟩)), (5, .pointer (some ⟨b4, 0, none⟩)), (6, .pointer (some ⟨b6, 0, none⟩)), (9, .pointer (some ⟨b33, 0, none⟩)), (41, .agg #[v17a, v17b]), (42, .agg #[va, ea]), (43, .agg #[vb, eb]), (45, .agg #[va, ea]), (46, .int .i64 x)]) → Fr (org w) w443 S [.box b33 29 [(.slice none 0 0), (.slice none 0 0)], .ro v17b (mergeL B D 2), .ro v17a (mergeL A C 2), .box b6 29 [vb, eb], .box b4 29 [va, ea], .box b2 24 [.int .i64 n, ve]] → But w11 none w443 → M 7 #[true, true, true, true, true, false, true, true, false, true, false, false, false, false, false] a w443 := by
      intro a w443 S v17a v17b b33 hge_b33 hA H hD
      refine (hM _ _ _ _).2 ?_
      refine m_many [5, 10, 11] fun i_ hi_ => ?_
      simp only [List.mem_cons, List.not_mem_nil, or_false] at hi_
      rcases hi_ with rfl | rfl | rfl
      · skip
        refine q_call 5 44 40 #[.tmp 42, .tmp 43] #[29, 29] [.agg #[va, ea], .agg #[vb, eb]] (fun S v w' => Rd S w' v ((mergeL A C 1, mergeL B D 1))) [(3, .int .i64 x), (4, .pointer (some ⟨b2, 0, none⟩)), (5, .pointer (some ⟨b4, 0, none⟩)), (6, .pointer (some ⟨b6, 0, none⟩)), (9, .pointer (some ⟨b33, 0, none⟩)), (41, .agg #[v17a, v17b]), (45, .agg #[va, ea]), (46, .int .i64 x)] hA H (by exact or_any va ea vb eb A B C D H.at ((H.arg gA)) ((H.arg gB)) ((H.arg gC)) ((H.arg gD)) (by (try simp only [List.length_cons, List.length_nil]); omega) (by (try simp only [List.length_cons, List.length_nil]); omega)) fun v444 a w445 S hR446 H hA hG => ?_
        obtain ⟨v444a, v444b, rfl, hR446a, hR446b⟩ := two_rd hR446
        replace H := H.ro hR446a; replace H := H.ro hR446b
        replace H : Fr _ _ _ [.ro v444b (mergeL B D 1), .ro v444a (mergeL A C 1), .box b33 29 [(.slice none 0 0), (.slice none 0 0)], .ro v17b (mergeL B D 2), .ro v17a (mergeL A C 2), .box b6 29 [vb, eb], .box b4 29 [va, ea], .box b2 24 [.int .i64 n, ve]] := H
        replace H : Fr _ _ _ [.box b33 29 [(.slice none 0 0), (.slice none 0 0)], .ro v444b (mergeL B D 1), .ro v444a (mergeL A C 1), .ro v17b (mergeL B D 2), .ro v17a (mergeL A C 2), .box b6 29 [vb, eb], .box b4 29 [va, ea], .box b2 24 [.int .i64 n, ve]] := H.sink 2 1
        replace hD := hD.below hG
        refine ⟨fun _ => hD, ?_⟩
        exact (hM _ _ _ _).1 (hM250 _ _ _ v17a v17b v444a v444b b33 hge_b33 (env_sub _ hA) H hD)
      · skip
        refine q_alloc 10 10 29 [(.slice none 0 0), (.slice none 0 0)] [(3, .int .i64 x), (4, .pointer (some ⟨b2, 0, none⟩)), (5, .pointer (some ⟨b4, 0, none⟩)), (6, .pointer (some ⟨b6, 0, none⟩)), (9, .pointer (some ⟨b33, 0, none⟩)), (41, .agg #[v17a, v17b]), (42, .agg #[va, ea]), (43, .agg #[vb, eb]), (45, .agg #[va, ea]), (46, .int .i64 x)] hA H fun b449 a w450 H hA hG hge_b449 => ?_
        replace hge_b449 := Nat.le_trans hD.1 hge_b449
        replace hD := hD.below hG
        refine ⟨fun _ => hD, ?_⟩
        exact (hM _ _ _ _).1 (hM253 _ _ _ v17a v17b b33 hge_b33 b449 hge_b449 (env_sub _ hA) H hD)
      · skip
        refine q_alloc 11 11 29 [(.slice none 0 0), (.slice none 0 0)] [(3, .int .i64 x), (4, .pointer (some ⟨b2, 0, none⟩)), (5, .pointer (some ⟨b4, 0, none⟩)), (6, .pointer (some ⟨b6, 0, none⟩)), (9, .pointer (some ⟨b33, 0, none⟩)), (41, .agg #[v17a, v17b]), (42, .agg #[va, ea]), (43, .agg #[vb, eb]), (45, .agg #[va, ea]), (46, .int .i64 x)] hA H fun b451 a w452 H hA hG hge_b451 => ?_
        replace hge_b451 := Nat.le_trans hD.1 hge_b451
        replace hD := hD.below hG
        refine ⟨fun _ => hD, ?_⟩
        exact (hM _ _ _ _).1 (hM254 _ _ _ v17a v17b b33 hge_b33 b451 hge_b451 (env_sub _ hA) H hD)
    have hM259 : ∀ (a : Act) (w453 : World) (S : Stab) (v17a : Value) (v17b : Value) (b35 : Nat) (hge_b35 : w11.heap.size ≤ b35), EnvOk 107 a (keepEnv [(3, .int .i64 x), (4, .pointer (some ⟨b2, 0, none⟩)), (5, .pointer (some ⟨b4, 0, none⟩)), (6, .pointer (some ⟨b6, 0, none⟩)), (10, .pointer (some ⟨b35, 0, none⟩)), (41, .agg #[v17a, v17b]), (42, .agg #[va, ea]), (43, .agg #[vb, eb]), (45, .agg #[va, ea]), (46, .int .i64 x)]) → Fr (org w) w453 S [.box b35 29 [(.slice none 0 0), (.slice none 0 0)], .ro v17b (mergeL B D 2), .ro v17a (mergeL A C 2), .box b6 29 [vb, eb], .box b4 29 [va, ea], .box b2 24 [.int .i64 n, ve]] → But w11 none w453 → M 7 #[true, true, true, true, true, false, true, true, false, false, true, false, false, false, false] a w453 := by
      intro a w453 S v17a v17b b35 hge_b35 hA H hD
      refine (hM _ _ _ _).2 ?_
      refine m_many [5, 9, 11] fun i_ hi_ => ?_
      simp only [List.mem_cons, List.not_mem_nil, or_false] at hi_
      rcases hi_ with rfl | rfl | rfl
      · skip
        refine q_call 5 44 40 #[.tmp 42, .tmp 43] #[29, 29] [.agg #[va, ea], .agg #[vb, eb]] (fun S v w' => Rd S w' v ((mergeL A C 1, mergeL B D 1))) [(3, .int .i64 x), (4, .pointer (some ⟨b2, 0, none⟩)), (5, .pointer (some ⟨b4, 0, none⟩)), (6, .pointer (some ⟨b6, 0, none⟩)), (10, .pointer (some ⟨b35, 0, none⟩)), (41, .agg #[v17a, v17b]), (45, .agg #[va, ea]), (46, .int .i64 x)] hA H (by exact or_any va ea vb eb A B C D H.at ((H.arg gA)) ((H.arg gB)) ((H.arg gC)) ((H.arg gD)) (by (try simp only [List.length_cons, List.length_nil]); omega) (by (try simp only [List.length_cons, List.length_nil]); omega)) fun v454 a w455 S hR456 H hA hG => ?_
        obtain ⟨v454a, v454b, rfl, hR456a, hR456b⟩ := two_rd hR456
        replace H := H.ro hR456a; replace H := H.ro hR456b
        replace H : Fr _ _ _ [.ro v454b (mergeL B D 1), .ro v454a (mergeL A C 1), .box b35 29 [(.slice none 0 0), (.slice none 0 0)], .ro v17b (mergeL B D 2), .ro v17a (mergeL A C 2), .box b6 29 [vb, eb], .box b4 29 [va, ea], .box b2 24 [.int .i64 n, ve]] := H
        replace H : Fr _ _ _ [.box b35 29 [(.slice none 0 0), (.slice none 0 0)], .ro v454b (mergeL B D 1), .ro v454a (mergeL A C 1), .ro v17b (mergeL B D 2), .ro v17a (mergeL A C 2), .box b6 29 [vb, eb], .box b4 29 [va, ea], .box b2 24 [.int .i64 n, ve]] := H.sink 2 1
        replace hD := hD.below hG
        refine ⟨fun _ => hD, ?_⟩
        exact (hM _ _ _ _).1 (hM251 _ _ _ v17a v17b v454a v454b b35 hge_b35 (env_sub _ hA) H hD)
      · skip
        refine q_alloc 9 9 29 [(.slice none 0 0), (.slice none 0 0)] [(3, .int .i64 x), (4, .pointer (some ⟨b2, 0, none⟩)), (5, .pointer (some ⟨b4, 0, none⟩)), (6, .pointer (some ⟨b6, 0, none⟩)), (10, .pointer (some ⟨b35, 0, none⟩)), (41, .agg #[v17a, v17b]), (42, .agg #[va, ea]), (43, .agg #[vb, eb]), (45, .agg #[va, ea]), (46, .int .i64 x)] hA H fun b459 a w460 H hA hG hge_b459 => ?_
        replace hge_b459 := Nat.le_trans hD.1 hge_b459
        replace H : Fr _ _ _ [.box b35 29 [(.slice none 0 0), (.slice none 0 0)], .box b459 29 [(.slice none 0 0), (.slice none 0 0)], .ro v17b (mergeL B D 2), .ro v17a (mergeL A C 2), .box b6 29 [vb, eb], .box b4 29 [va, ea], .box b2 24 [.int .i64 n, ve]] := H.sink 1 1
        replace hD := hD.below hG
        refine ⟨fun _ => hD, ?_⟩
        exact (hM _ _ _ _).1 (hM253 _ _ _ v17a v17b b459 hge_b459 b35 hge_b35 (env_sub _ hA) H hD)
      · skip
        refine q_alloc 11 11 29 [(.slice none 0 0), (.slice none 0 0)] [(3, .int .i64 x), (4, .pointer (some ⟨b2, 0, none⟩)), (5, .pointer (some ⟨b4, 0, none⟩)), (6, .pointer (some ⟨b6, 0, none⟩)), (10, .pointer (some ⟨b35, 0, none⟩)), (41, .agg #[v17a, v17b]), (42, .agg #[va, ea]), (43, .agg #[vb, eb]), (45, .agg #[va, ea]), (46, .int .i64 x)] hA H fun b461 a w462 H hA hG hge_b461 => ?_
        replace hge_b461 := Nat.le_trans hD.1 hge_b461
        replace hD := hD.below hG
        refine ⟨fun _ => hD, ?_⟩
        exact (hM _ _ _ _).1 (hM255 _ _ _ v17a v17b b35 hge_b35 b461 hge_b461 (env_sub _ hA) H hD)
    have hM260 : ∀ (a : Act) (w463 : World) (S : Stab) (v17a : Value) (v17b : Value) (b37 : Nat) (hge_b37 : w11.heap.size ≤ b37), EnvOk 107 a (keepEnv [(3, .int .i64 x), (4, .pointer (some ⟨b2, 0, none⟩)), (5, .pointer (some ⟨b4, 0, none⟩)), (6, .pointer (some ⟨b6, 0, none⟩)), (11, .pointer (some ⟨b37, 0, none⟩)), (41, .agg #[v17a, v17b]), (42, .agg #[va, ea]), (43, .agg #[vb, eb]), (45, .agg #[va, ea]), (46, .int .i64 x)]) → Fr (org w) w463 S [.box b37 29 [(.slice none 0 0), (.slice none 0 0)], .ro v17b (mergeL B D 2), .ro v17a (mergeL A C 2), .box b6 29 [vb, eb], .box b4 29 [va, ea], .box b2 24 [.int .i64 n, ve]] → But w11 none w463 → M 7 #[true, true, true, true, true, false, true, true, false, false, false, true, false, false, false] a w463 := by
      intro a w463 S v17a v17b b37 hge_b37 hA H hD
      refine (hM _ _ _ _).2 ?_
      refine m_many [5, 9, 10] fun i_ hi_ => ?_
      simp only [List.mem_cons, List.not_mem_nil, or_false] at hi_
      rcases hi_ with rfl | rfl | rfl
      · skip
        refine q_call 5 44 40 #[.tmp 42, .tmp 43] #[29, 29] [.agg #[va, ea], .agg #[vb, eb]] (fun S v w' => Rd S w' v ((mergeL A C 1, mergeL B D 1))) [(3, .int .i64 x), (4, .pointer (some ⟨b2, 0, none⟩)), (5, .pointer (some ⟨b4, 0, none⟩)), (6, .pointer (some ⟨b6, 0, none⟩)), (11, .pointer (some ⟨b37, 0, none⟩)), (41, .agg #[v17a, v17b]), (45, .agg #[va, ea]), (46, .int .i64 x)] hA H (by exact or_any va ea vb eb A B C D H.at ((H.arg gA)) ((H.arg gB)) ((H.arg gC)) ((H.arg gD)) (by (try simp only [List.length_cons, List.length_nil]); omega) (by (try simp only [List.length_cons, List.length_nil]); omega)) fun v464 a w465 S hR466 H hA hG => ?_
        obtain ⟨v464a, v464b, rfl, hR466a, hR466b⟩ := two_rd hR466
        replace H := H.ro hR466a; replace H := H.ro hR466b
        replace H : Fr _ _ _ [.ro v464b (mergeL B D 1), .ro v464a (mergeL A C 1), .box b37 29 [(.slice none 0 0), (.slice none 0 0)], .ro v17b (mergeL B D 2), .ro v17a (mergeL A C 2), .box b6 29 [vb, eb], .box b4 29 [va, ea], .box b2 24 [.int .i64 n, ve]] := H
        replace H : Fr _ _ _ [.box b37 29 [(.slice none 0 0), (.slice none 0 0)], .ro v464b (mergeL B D 1), .ro v464a (mergeL A C 1), .ro v17b (mergeL B D 2), .ro v17a (mergeL A C 2), .box b6 29 [vb, eb], .box b4 29 [va, ea], .box b2 24 [.int .i64 n, ve]] := H.sink 2 1
        replace hD := hD.below hG
        refine ⟨fun _ => hD, ?_⟩
        exact (hM _ _ _ _).1 (hM252 _ _ _ v17a v17b v464a v464b b37 hge_b37 (env_sub _ hA) H hD)
      · skip
        refine q_alloc 9 9 29 [(.slice none 0 0), (.slice none 0 0)] [(3, .int .i64 x), (4, .pointer (some ⟨b2, 0, none⟩)), (5, .pointer (some ⟨b4, 0, none⟩)), (6, .pointer (some ⟨b6, 0, none⟩)), (11, .pointer (some ⟨b37, 0, none⟩)), (41, .agg #[v17a, v17b]), (42, .agg #[va, ea]), (43, .agg #[vb, eb]), (45, .agg #[va, ea]), (46, .int .i64 x)] hA H fun b469 a w470 H hA hG hge_b469 => ?_
        replace hge_b469 := Nat.le_trans hD.1 hge_b469
        replace H : Fr _ _ _ [.box b37 29 [(.slice none 0 0), (.slice none 0 0)], .box b469 29 [(.slice none 0 0), (.slice none 0 0)], .ro v17b (mergeL B D 2), .ro v17a (mergeL A C 2), .box b6 29 [vb, eb], .box b4 29 [va, ea], .box b2 24 [.int .i64 n, ve]] := H.sink 1 1
        replace hD := hD.below hG
        refine ⟨fun _ => hD, ?_⟩
        exact (hM _ _ _ _).1 (hM254 _ _ _ v17a v17b b469 hge_b469 b37 hge_b37 (env_sub _ hA) H hD)
      · skip
        refine q_alloc 10 10 29 [(.slice none 0 0), (.slice none 0 0)] [(3, .int .i64 x), (4, .pointer (some ⟨b2, 0, none⟩)), (5, .pointer (some ⟨b4, 0, none⟩)), (6, .pointer (some ⟨b6, 0, none⟩)), (11, .pointer (some ⟨b37, 0, none⟩)), (41, .agg #[v17a, v17b]), (42, .agg #[va, ea]), (43, .agg #[vb, eb]), (45, .agg #[va, ea]), (46, .int .i64 x)] hA H fun b471 a w472 H hA hG hge_b471 => ?_
        replace hge_b471 := Nat.le_trans hD.1 hge_b471
        replace H : Fr _ _ _ [.box b37 29 [(.slice none 0 0), (.slice none 0 0)], .box b471 29 [(.slice none 0 0), (.slice none 0 0)], .ro v17b (mergeL B D 2), .ro v17a (mergeL A C 2), .box b6 29 [vb, eb], .box b4 29 [va, ea], .box b2 24 [.int .i64 n, ve]] := H.sink 1 1
        replace hD := hD.below hG
        refine ⟨fun _ => hD, ?_⟩
        exact (hM _ _ _ _).1 (hM255 _ _ _ v17a v17b b471 hge_b471 b37 hge_b37 (env_sub _ hA) H hD)
    have hM261 : ∀ (a : Act) (w473 : World) (S : Stab) (b22 : Nat) (hge_b22 : w11.heap.size ≤ b22) (b44 : Nat) (hge_b44 : w11.heap.size ≤ b44), EnvOk 107 a (keepEnv [(3, .int .i64 x), (4, .pointer (some ⟨b2, 0, none⟩)), (5, .pointer (some ⟨b4, 0, none⟩)), (6, .pointer (some ⟨b6, 0, none⟩)), (9, .pointer (some ⟨b22, 0, none⟩)), (10, .pointer (some ⟨b44, 0, none⟩)), (39, .agg #[va, ea]), (40, .agg #[vb, eb]), (42, .agg #[va, ea]), (43, .agg #[vb, eb]), (45, .agg #[va, ea]), (46, .int .i64 x)]) → Fr (org w) w473 S [.box b44 29 [(.slice none 0 0), (.slice none 0 0)], .box b22 29 [(.slice none 0 0), (.slice none 0 0)], .box b6 29 [vb, eb], .box b4 29 [va, ea], .box b2 24 [.int .i64 n, ve]] → But w11 none w473 → M 7 #[true, true, false, true, true, false, true, true, false, true, true, false, false, false, false] a w473 := by
      intro a w473 S b22 hge_b22 b44 hge_b44 hA H hD
      refine (hM _ _ _ _).2 ?_
      refine m_many [2, 11] fun i_ hi_ => ?_
      simp only [List.mem_cons, List.not_mem_nil, or_false] at hi_
      rcases hi_ with rfl | rfl
      · skip
        refine q_call 2 41 42 #[.tmp 39, .tmp 40] #[29, 29] [.agg #[va, ea], .agg #[vb, eb]] (fun S v w' => Rd S w' v ((mergeL A C 2, mergeL B D 2))) [(3, .int .i64 x), (4, .pointer (some ⟨b2, 0, none⟩)), (5, .pointer (some ⟨b4, 0, none⟩)), (6, .pointer (some ⟨b6, 0, none⟩)), (9, .pointer (some ⟨b22, 0, none⟩)), (10, .pointer (some ⟨b44, 0, none⟩)), (42, .agg #[va, ea]), (43, .agg #[vb, eb]), (45, .agg #[va, ea]), (46, .int .i64 x)] hA H (by exact and_any va ea vb eb A B C D H.at ((H.arg gA)) ((H.arg gB)) ((H.arg gC)) ((H.arg gD)) (by (try simp only [List.length_cons, List.length_nil]); omega) (by (try simp only [List.length_cons, List.length_nil]); omega)) fun v474 a w475 S hR476 H hA hG => ?_
        obtain ⟨v474a, v474b, rfl, hR476a, hR476b⟩ := two_rd hR476
        replace H := H.ro hR476a; replace H := H.ro hR476b
        replace H : Fr _ _ _ [.ro v474b (mergeL B D 2), .ro v474a (mergeL A C 2), .box b44 29 [(.slice none 0 0), (.slice none 0 0)], .box b22 29 [(.slice none 0 0), (.slice none 0 0)], .box b6 29 [vb, eb], .box b4 29 [va, ea], .box b2 24 [.int .i64 n, ve]] := H
        replace H : Fr _ _ _ [.box b44 29 [(.slice none 0 0), (.slice none 0 0)], .box b22 29 [(.slice none 0 0), (.slice none 0 0)], .ro v474b (mergeL B D 2), .ro v474a (mergeL A C 2), .box b6 29 [vb, eb], .box b4 29 [va, ea], .box b2 24 [.int .i64 n, ve]] := H.sink 2 2
        replace hD := hD.below hG
        refine ⟨fun _ => hD, ?_⟩
        exact (hM _ _ _ _).1 (hM253 _ _ _ v474a v474b b22 hge_b22 b44 hge_b44 (env_sub _ hA) H hD)
      · skip
        refine q_alloc 11 11 29 [(.slice none 0 0), (.slice none 0 0)] [(3, .int .i64 x), (4, .pointer (some ⟨b2, 0, none⟩)), (5, .pointer (some ⟨b4, 0, none⟩)), (6, .pointer (some ⟨b6, 0, none⟩)), (9, .pointer (some ⟨b22, 0, none⟩)), (10, .pointer (some ⟨b44, 0, none⟩)), (39, .agg #[va, ea]), (40, .agg #[vb, eb]), (42, .agg #[va, ea]), (43, .agg #[vb, eb]), (45, .agg #[va, ea]), (46, .int .i64 x)] hA H fun b479 a w480 H hA hG hge_b479 => ?_
        replace hge_b479 := Nat.le_trans hD.1 hge_b479
        replace hD := hD.below hG
        refine ⟨fun _ => hD, ?_⟩
        exact (hM _ _ _ _).1 (hM256 _ _ _ b22 hge_b22 b44 hge_b44 b479 hge_b479 (env_sub _ hA) H hD)
    have hM262 : ∀ (a : Act) (w481 : World) (S : Stab) (b22 : Nat) (hge_b22 : w11.heap.size ≤ b22) (b46 : Nat) (hge_b46 : w11.heap.size ≤ b46), EnvOk 107 a (keepEnv [(3, .int .i64 x), (4, .pointer (some ⟨b2, 0, none⟩)), (5, .pointer (some ⟨b4, 0, none⟩)), (6, .pointer (some ⟨b6, 0, none⟩)), (9, .pointer (some ⟨b22, 0, none⟩)), (11, .pointer (some ⟨b46, 0, none⟩)), (39, .agg #[va, ea]), (40, .agg #[vb, eb]), (42, .agg #[va, ea]), (43, .agg #[vb, eb]), (45, .agg #[va, ea]), (46, .int .i64 x)]) → Fr (org w) w481 S [.box b46 29 [(.slice none 0 0), (.slice none 0 0)], .box b22 29 [(.slice none 0 0), (.slice none 0 0)], .box b6 29 [vb, eb], .box b4 29 [va, ea], .box b2 24 [.int .i64 n, ve]] → But w11 none w481 → M 7 #[true, true, false, true, true, false, true, true, false, true, false, true, false, false, false] a w481 := by
      intro a w481 S b22 hge_b22 b46 hge_b46 hA H hD
      refine (hM _ _ _ _).2 ?_
      refine m_many [2, 10] fun i_ hi_ => ?_
      simp only [List.mem_cons, List.not_mem_nil, or_false] at hi_
      rcases hi_ with rfl | rfl
      · skip
        refine q_call 2 41 42 #[.tmp 39, .tmp 40] #[29, 29] [.agg #[va, ea], .agg #[vb, eb]] (fun S v w' => Rd S w' v ((mergeL A C 2, mergeL B D 2))) [(3, .int .i64 x), (4, .pointer (some ⟨b2, 0, none⟩)), (5, .pointer (some ⟨b4, 0, none⟩)), (6, .pointer (some ⟨b6, 0, none⟩)), (9, .pointer (some ⟨b22, 0, none⟩)), (11, .pointer (some ⟨b46, 0, none⟩)), (42, .agg #[va, ea]), (43, .agg #[vb, eb]), (45, .agg #[va, ea]), (46, .int .i64 x)] hA H (by exact and_any va ea vb eb A B C D H.at ((H.arg gA)) ((H.arg gB)) ((H.arg gC)) ((H.arg gD)) (by (try simp only [List.length_cons, List.length_nil]); omega) (by (try simp only [List.length_cons, List.length_nil]); omega)) fun v482 a w483 S hR484 H hA hG => ?_
        obtain ⟨v482a, v482b, rfl, hR484a, hR484b⟩ := two_rd hR484
        replace H := H.ro hR484a; replace H := H.ro hR484b
        replace H : Fr _ _ _ [.ro v482b (mergeL B D 2), .ro v482a (mergeL A C 2), .box b46 29 [(.slice none 0 0), (.slice none 0 0)], .box b22 29 [(.slice none 0 0), (.slice none 0 0)], .box b6 29 [vb, eb], .box b4 29 [va, ea], .box b2 24 [.int .i64 n, ve]] := H
        replace H : Fr _ _ _ [.box b46 29 [(.slice none 0 0), (.slice none 0 0)], .box b22 29 [(.slice none 0 0), (.slice none 0 0)], .ro v482b (mergeL B D 2), .ro v482a (mergeL A C 2), .box b6 29 [vb, eb], .box b4 29 [va, ea], .box b2 24 [.int .i64 n, ve]] := H.sink 2 2
        replace hD := hD.below hG
        refine ⟨fun _ => hD, ?_⟩
        exact (hM _ _ _ _).1 (hM254 _ _ _ v482a v482b b22 hge_b22 b46 hge_b46 (env_sub _ hA) H hD)
      · skip
        refine q_alloc 10 10 29 [(.slice none 0 0), (.slice none 0 0)] [(3, .int .i64 x), (4, .pointer (some ⟨b2, 0, none⟩)), (5, .pointer (some ⟨b4, 0, none⟩)), (6, .pointer (some ⟨b6, 0, none⟩)), (9, .pointer (some ⟨b22, 0, none⟩)), (11, .pointer (some ⟨b46, 0, none⟩)), (39, .agg #[va, ea]), (40, .agg #[vb, eb]), (42, .agg #[va, ea]), (43, .agg #[vb, eb]), (45, .agg #[va, ea]), (46, .int .i64 x)] hA H fun b487 a w488 H hA hG hge_b487 => ?_
        replace hge_b487 := Nat.le_trans hD.1 hge_b487
        replace H : Fr _ _ _ [.box b46 29 [(.slice none 0 0), (.slice none 0 0)], .box b487 29 [(.slice none 0 0), (.slice none 0 0)], .box b22 29 [(.slice none 0 0), (.slice none 0 0)], .box b6 29 [vb, eb], .box b4 29 [va, ea], .box b2 24 [.int .i64 n, ve]] := H.sink 1 1
        replace hD := hD.below hG
        refine ⟨fun _ => hD, ?_⟩
        exact (hM _ _ _ _).1 (hM256 _ _ _ b22 hge_b22 b487 hge_b487 b46 hge_b46 (env_sub _ hA) H hD)
    have hM263 : ∀ (a : Act) (w489 : World) (S : Stab) (b24 : Nat) (hge_b24 : w11.heap.size ≤ b24) (b55 : Nat) (hge_b55 : w11.heap.size ≤ b55), EnvOk 107 a (keepEnv [(3, .int .i64 x), (4, .pointer (some ⟨b2, 0, none⟩)), (5, .pointer (some ⟨b4, 0, none⟩)), (6, .pointer (some ⟨b6, 0, none⟩)), (10, .pointer (some ⟨b24, 0, none⟩)), (11, .pointer (some ⟨b55, 0, none⟩)), (39, .agg #[va, ea]), (40, .agg #[vb, eb]), (42, .agg #[va, ea]), (43, .agg #[vb, eb]), (45, .agg #[va, ea]), (46, .int .i64 x)]) → Fr (org w) w489 S [.box b55 29 [(.slice none 0 0), (.slice none 0 0)], .box b24 29 [(.slice none 0 0), (.slice none 0 0)], .box b6 29 [vb, eb], .box b4 29 [va, ea], .box b2 24 [.int .i64 n, ve]] → But w11 none w489 → M 7 #[true, true, false, true, true, false, true, true, false, false, true, true, false, false, false] a w489 := by
      intro a w489 S b24 hge_b24 b55 hge_b55 hA H hD
      refine (hM _ _ _ _).2 ?_
      refine m_many [2, 9] fun i_ hi_ => ?_
      simp only [List.mem_cons, List.not_mem_nil, or_false] at hi_
      rcases hi_ with rfl | rfl
      · skip
        refine q_call 2 41 42 #[.tmp 39, .tmp 40] #[29, 29] [.agg #[va, ea], .agg #[vb, eb]] (fun S v w' => Rd S w' v ((mergeL A C 2, mergeL B D 2))) [(3, .int .i64 x), (4, .pointer (some ⟨b2, 0, none⟩)), (5, .pointer (some ⟨b4, 0, none⟩)), (6, .pointer (some ⟨b6, 0, none⟩)), (10, .pointer (some ⟨b24, 0, none⟩)), (11, .pointer (some ⟨b55, 0, none⟩)), (42, .agg #[va, ea]), (43, .agg #[vb, eb]), (45, .agg #[va, ea]), (46, .int .i64 x)] hA H (by exact and_any va ea vb eb A B C D H.at ((H.arg gA)) ((H.arg gB)) ((H.arg gC)) ((H.arg gD)) (by (try simp only [List.length_cons, List.length_nil]); omega) (by (try simp only [List.length_cons, List.length_nil]); omega)) fun v490 a w491 S hR492 H hA hG => ?_
        obtain ⟨v490a, v490b, rfl, hR492a, hR492b⟩ := two_rd hR492
        replace H := H.ro hR492a; replace H := H.ro hR492b
        replace H : Fr _ _ _ [.ro v490b (mergeL B D 2), .ro v490a (mergeL A C 2), .box b55 29 [(.slice none 0 0), (.slice none 0 0)], .box b24 29 [(.slice none 0 0), (.slice none 0 0)], .box b6 29 [vb, eb], .box b4 29 [va, ea], .box b2 24 [.int .i64 n, ve]] := H
        replace H : Fr _ _ _ [.box b55 29 [(.slice none 0 0), (.slice none 0 0)], .box b24 29 [(.slice none 0 0), (.slice none 0 0)], .ro v490b (mergeL B D 2), .ro v490a (mergeL A C 2), .box b6 29 [vb, eb], .box b4 29 [va, ea], .box b2 24 [.int .i64 n, ve]] := H.sink 2 2
        replace hD := hD.below hG
        refine ⟨fun _ => hD, ?_⟩
        exact (hM _ _ _ _).1 (hM255 _ _ _ v490a v490b b24 hge_b24 b55 hge_b55 (env_sub _ hA) H hD)
      · skip
        refine q_alloc 9 9 29 [(.slice none 0 0), (.slice none 0 0)] [(3, .int .i64 x), (4, .pointer (some ⟨b2, 0, none⟩)), (5, .pointer (some ⟨b4, 0, none⟩)), (6, .pointer (some ⟨b6, 0, none⟩)), (10, .pointer (some ⟨b24, 0, none⟩)), (11, .pointer (some ⟨b55, 0, none⟩)), (39, .agg #[va, ea]), (40, .agg #[vb, eb]), (42, .agg #[va, ea]), (43, .agg #[vb, eb]), (45, .agg #[va, ea]), (46, .int .i64 x)] hA H fun b495 a w496 H hA hG hge_b495 => ?_
        replace hge_b495 := Nat.le_trans hD.1 hge_b495
        replace H : Fr _ _ _ [.box b55 29 [(.slice none 0 0), (.slice none 0 0)], .box b24 29 [(.slice none 0 0), (.slice none 0 0)], .box b495 29 [(.slice none 0 0), (.slice none 0 0)], .box b6 29 [vb, eb], .box b4 29 [va, ea], .box b2 24 [.int .i64 n, ve]] := H.sink 1 2
        replace hD := hD.below hG
        refine ⟨fun _ => hD, ?_⟩
        exact (hM _ _ _ _).1 (hM256 _ _ _ b495 hge_b495 b24 hge_b24 b55 hge_b55 (env_sub _ hA) H hD)
    have hM264 : ∀ (a : Act) (w497 : World) (S : Stab) (v17a : Value) (v17b : Value), EnvOk 107 a (keepEnv [(3, .int .i64 x), (4, .pointer (some ⟨b2, 0, none⟩)), (5, .pointer (some ⟨b4, 0, none⟩)), (6, .pointer (some ⟨b6, 0, none⟩)), (41, .agg #[v17a, v17b]), (42, .agg #[va, ea]), (43, .agg #[vb, eb]), (45, .agg #[va, ea]), (46, .int .i64 x)]) → Fr (org w) w497 S [.ro v17b (mergeL B D 2), .ro v17a (mergeL A C 2), .box b6 29 [vb, eb], .box b4 29 [va, ea], .box b2 24 [.int .i64 n, ve]] → But w11 none w497 → M 8 #[true, true, true, true, true, false, true, true, false, false, false, false, false, false, false] a w497 := by
      intro a w497 S v17a v17b hA H hD
      refine (hM _ _ _ _).2 ?_
      refine m_many [5, 9, 10, 11] fun i_ hi_ => ?_
      simp only [List.mem_cons, List.not_mem_nil, or_false] at hi_
      rcases hi_ with rfl | rfl | rfl | rfl
      · skip
        refine q_call 5 44 40 #[.tmp 42, .tmp 43] #[29, 29] [.agg #[va, ea], .agg #[vb, eb]] (fun S v w' => Rd S w' v ((mergeL A C 1, mergeL B D 1))) [(3, .int .i64 x), (4, .pointer (some ⟨b2, 0, none⟩)), (5, .pointer (some ⟨b4, 0, none⟩)), (6, .pointer (some ⟨b6, 0, none⟩)), (41, .agg #[v17a, v17b]), (45, .agg #[va, ea]), (46, .int .i64 x)] hA H (by exact or_any va ea vb eb A B C D H.at ((H.arg gA)) ((H.arg gB)) ((H.arg gC)) ((H.arg gD)) (by (try simp only [List.length_cons, List.length_nil]); omega) (by (try simp only [List.length_cons, List.length_nil]); omega)) fun v498 a w499 S hR500 H hA hG => ?_
        obtain ⟨v498a, v498b, rfl, hR500a, hR500b⟩ := two_rd hR500
        replace H := H.ro hR500a; replace H := H.ro hR500b
        replace H : Fr _ _ _ [.ro v498b (mergeL B D 1), .ro v498a (mergeL A C 1), .ro v17b (mergeL B D 2), .ro v17a (mergeL A C 2), .box b6 29 [vb, eb], .box b4 29 [va, ea], .box b2 24 [.int .i64 n, ve]] := H
        replace hD := hD.below hG
        refine ⟨fun _ => hD, ?_⟩
        exact (hM _ _ _ _).1 (hM257 _ _ _ v17a v17b v498a v498b (env_sub _ hA) H hD)
      · skip
        refine q_alloc 9 9 29 [(.slice none 0 0), (.slice none 0 0)] [(3, .int .i64 x), (4, .pointer (some ⟨b2, 0, none⟩)), (5, .pointer (some ⟨b4, 0, none⟩)), (6, .pointer (some ⟨b6, 0, none⟩)), (41, .agg #[v17a, v17b]), (42, .agg #[va, ea]), (43, .agg #[vb, eb]), (45, .agg #[va, ea]), (46, .int .i64 x)] hA H fun b503 a w504 H hA hG hge_b503 => ?_
        replace hge_b503 := Nat.le_trans hD.1 hge_b503
        replace hD := hD.below hG
        refine ⟨fun _ => hD, ?_⟩
        exact (hM _ _ _ _).1 (hM258 _ _ _ v17a v17b b503 hge_b503 (env_sub _ hA) H hD)
      · skip
        refine q_alloc 10 10 29 [(.slice none 0 0), (.slice none 0 0)] [(3, .int .i64 x), (4, .pointer (some ⟨b2, 0, none⟩)), (5, .pointer (some ⟨b4, 0, none⟩)), (6, .pointer (some ⟨b6, 0, none⟩)), (41, .agg #[v17a, v17b]), (42, .agg #[va, ea]), (43, .agg #[vb, eb]), (45, .agg #[va, ea]), (46, .int .i64 x)] hA H fun b505 a w506 H hA hG hge_b505 => ?_
        replace hge_b505 := Nat.le_trans hD.1 hge_b505
        replace hD := hD.below hG
        refine ⟨fun _ => hD, ?_⟩
        exact (hM _ _ _ _).1 (hM259 _ _ _ v17a v17b b505 hge_b505 (env_sub _ hA) H hD)
      · skip
        refine q_alloc 11 11 29 [(.slice none 0 0), (.slice none 0 0)] [(3, .int .i64 x), (4, .pointer (some ⟨b2, 0, none⟩)), (5, .pointer (some ⟨b4, 0, none⟩)), (6, .pointer (some ⟨b6, 0, none⟩)), (41, .agg #[v17a, v17b]), (42, .agg #[va, ea]), (43, .agg #[vb, eb]), (45, .agg #[va, ea]), (46, .int .i64 x)] hA H fun b507 a w508 H hA hG hge_b507 => ?_
        replace hge_b507 := Nat.le_trans hD.1 hge_b507
        replace hD := hD.below hG
        refine ⟨fun _ => hD, ?_⟩
        exact (hM _ _ _ _).1 (hM260 _ _ _ v17a v17b b507 hge_b507 (env_sub _ hA) H hD)
    have hM265 : ∀ (a : Act) (w509 : World) (S : Stab) (b22 : Nat) (hge_b22 : w11.heap.size ≤ b22), EnvOk 107 a (keepEnv [(3, .int .i64 x), (4, .pointer (some ⟨b2, 0, none⟩)), (5, .pointer (some ⟨b4, 0, none⟩)), (6, .pointer (some ⟨b6, 0, none⟩)), (9, .pointer (some ⟨b22, 0, none⟩)), (39, .agg #[va, ea]), (40, .agg #[vb, eb]), (42, .agg #[va, ea]), (43, .agg #[vb, eb]), (45, .agg #[va, ea]), (46, .int .i64 x)]) → Fr (org w) w509 S [.box b22 29 [(.slice none 0 0), (.slice none 0 0)], .box b6 29 [vb, eb], .box b4 29 [va, ea], .box b2 24 [.int .i64 n, ve]] → But w11 none w509 → M 8 #[true, true, false, true, true, false, true, true, false, true, false, false, false, false, false] a w509 := by
      intro a w509 S b22 hge_b22 hA H hD
      refine (hM _ _ _ _).2 ?_
      refine m_many [2, 10, 11] fun i_ hi_ => ?_
      simp only [List.mem_cons, List.not_mem_nil, or_false] at hi_
      rcases hi_ with rfl | rfl | rfl
      · skip
        refine q_call 2 41 42 #[.tmp 39, .tmp 40] #[29, 29] [.agg #[va, ea], .agg #[vb, eb]] (fun S v w' => Rd S w' v ((mergeL A C 2, mergeL B D 2))) [(3, .int .i64 x), (4, .pointer (some ⟨b2, 0, none⟩)), (5, .pointer (some ⟨b4, 0, none⟩)), (6, .pointer (some ⟨b6, 0, none⟩)), (9, .pointer (some ⟨b22, 0, none⟩)), (42, .agg #[va, ea]), (43, .agg #[vb, eb]), (45, .agg #[va, ea]), (46, .int .i64 x)] hA H (by exact and_any va ea vb eb A B C D H.at ((H.arg gA)) ((H.arg gB)) ((H.arg gC)) ((H.arg gD)) (by (try simp only [List.length_cons, List.length_nil]); omega) (by (try simp only [List.length_cons, List.length_nil]); omega)) fun v510 a w511 S hR512 H hA hG => ?_
        obtain ⟨v510a, v510b, rfl, hR512a, hR512b⟩ := two_rd hR512
        replace H := H.ro hR512a; replace H := H.ro hR512b
        replace H : Fr _ _ _ [.ro v510b (mergeL B D 2), .ro v510a (mergeL A C 2), .box b22 29 [(.slice none 0 0), (.slice none 0 0)], .box b6 29 [vb, eb], .box b4 29 [va, ea], .box b2 24 [.int .i64 n, ve]] := H
        replace H : Fr _ _ _ [.box b22 29 [(.slice none 0 0), (.slice none 0 0)], .ro v510b (mergeL B D 2), .ro v510a (mergeL A C 2), .box b6 29 [vb, eb], .box b4 29 [va, ea], .box b2 24 [.int .i64 n, ve]] := H.sink 2 1
        replace hD := hD.below hG
        refine ⟨fun _ => hD, ?_⟩
        exact (hM _ _ _ _).1 (hM258 _ _ _ v510a v510b b22 hge_b22 (env_sub _ hA) H hD)
      · skip
        refine q_alloc 10 10 29 [(.slice none 0 0), (.slice none 0 0)] [(3, .int .i64 x), (4, .pointer (some ⟨b2, 0, none⟩)), (5, .pointer (some ⟨b4, 0, none⟩)), (6, .pointer (some ⟨b6, 0, none⟩)), (9, .pointer (some ⟨b22, 0, none⟩)), (39, .agg #[va, ea]), (40, .agg #[vb, eb]), (42, .agg #[va, ea]), (43, .agg #[vb, eb]), (45, .agg #[va, ea]), (46, .int .i64 x)] hA H fun b515 a w516 H hA hG hge_b515 => ?_
        replace hge_b515 := Nat.le_trans hD.1 hge_b515
        replace hD := hD.below hG
        refine ⟨fun _ => hD, ?_⟩
        exact (hM _ _ _ _).1 (hM261 _ _ _ b22 hge_b22 b515 hge_b515 (env_sub _ hA) H hD)
      · skip
        refine q_alloc 11 11 29 [(.slice none 0 0), (.slice none 0 0)] [(3, .int .i64 x), (4, .pointer (some ⟨b2, 0, none⟩)), (5, .pointer (some ⟨b4, 0, none⟩)), (6, .pointer (some ⟨b6, 0, none⟩)), (9, .pointer (some ⟨b22, 0, none⟩)), (39, .agg #[va, ea]), (40, .agg #[vb, eb]), (42, .agg #[va, ea]), (43, .agg #[vb, eb]), (45, .agg #[va, ea]), (46, .int .i64 x)] hA H fun b517 a w518 H hA hG hge_b517 => ?_
        replace hge_b517 := Nat.le_trans hD.1 hge_b517
        replace hD := hD.below hG
        refine ⟨fun _ => hD, ?_⟩
        exact (hM _ _ _ _).1 (hM262 _ _ _ b22 hge_b22 b517 hge_b517 (env_sub _ hA) H hD)
    have hM266 : ∀ (a : Act) (w519 : World) (S : Stab) (b24 : Nat) (hge_b24 : w11.heap.size ≤ b24), EnvOk 107 a (keepEnv [(3, .int .i64 x), (4, .pointer (some ⟨b2, 0, none⟩)), (5, .pointer (some ⟨b4, 0, none⟩)), (6, .pointer (some ⟨b6, 0, none⟩)), (10, .pointer (some ⟨b24, 0, none⟩)), (39, .agg #[va, ea]), (40, .agg #[vb, eb]), (42, .agg #[va, ea]), (43, .agg #[vb, eb]), (45, .agg #[va, ea]), (46, .int .i64 x)]) → Fr (org w) w519 S [.box b24 29 [(.slice none 0 0), (.slice none 0 0)], .box b6 29 [vb, eb], .box b4 29 [va, ea], .box b2 24 [.int .i64 n, ve]] → But w11 none w519 → M 8 #[true, true, false, true, true, false, true, true, false, false, true, false, false, false, false] a w519 := by
      intro a w519 S b24 hge_b24 hA H hD
      refine (hM _ _ _ _).2 ?_
      refine m_many [2, 9, 11] fun i_ hi_ => ?_
      simp only [List.mem_cons, List.not_mem_nil, or_false] at hi_
      rcases hi_ with rfl | rfl | rfl
      · skip
        refine q_call 2 41 42 #[.tmp 39, .tmp 40] #[29, 29] [.agg #[va, ea], .agg #[vb, eb]] (fun S v w' => Rd S w' v ((mergeL A C 2, mergeL B D 2))) [(3, .int .i64 x), (4, .pointer (some ⟨b2, 0, none⟩)), (5, .pointer (some ⟨b4, 0, none⟩)), (6, .pointer (some ⟨b6, 0, none⟩)), (10, .pointer (some ⟨b24, 0, none⟩)), (42, .agg #[va, ea]), (43, .agg #[vb, eb]), (45, .agg #[va, ea]), (46, .int .i64 x)] hA H (by exact and_any va ea vb eb A B C D H.at ((H.arg gA)) ((H.arg gB)) ((H.arg gC)) ((H.arg gD)) (by (try simp only [List.length_cons, List.length_nil]); omega) (by (try simp only [List.length_cons, List.length_nil]); omega)) fun v520 a w521 S hR522 H hA hG => ?_
        obtain ⟨v520a, v520b, rfl, hR522a, hR522b⟩ := two_rd hR522
        replace H := H.ro hR522a; replace H := H.ro hR522b
        replace H : Fr _ _ _ [.ro v520b (mergeL B D 2), .ro v520a (mergeL A C 2), .box b24 29 [(.slice none 0 0), (.slice none 0 0)], .box b6 29 [vb, eb], .box b4 29 [va, ea], .box b2 24 [.int .i64 n, ve]] := H
        replace H : Fr _ _ _ [.box b24 29 [(.slice none 0 0), (.slice none 0 0)], .ro v520b (mergeL B D 2), .ro v520a (mergeL A C 2), .box b6 29 [vb, eb], .box b4 29 [va, ea], .box b2 24 [.int .i64 n, ve]] := H.sink 2 1
        replace hD := hD.below hG
        refine ⟨fun _ => hD, ?_⟩
        exact (hM _ _ _ _).1 (hM259 _ _ _ v520a v520b b24 hge_b24 (env_sub _ hA) H hD)
      · skip
        refine q_alloc 9 9 29 [(.slice none 0 0), (.slice none 0 0)] [(3, .int .i64 x), (4, .pointer (some ⟨b2, 0, none⟩)), (5, .pointer (some ⟨b4, 0, none⟩)), (6, .pointer (some ⟨b6, 0, none⟩)), (10, .pointer (some ⟨b24, 0, none⟩)), (39, .agg #[va, ea]), (40, .agg #[vb, eb]), (42, .agg #[va, ea]), (43, .agg #[vb, eb]), (45, .agg #[va, ea]), (46, .int .i64 x)] hA H fun b525 a w526 H hA hG hge_b525 => ?_
        replace hge_b525 := Nat.le_trans hD.1 hge_b525
        replace H : Fr _ _ _ [.box b24 29 [(.slice none 0 0), (.slice none 0 0)], .box b525 29 [(.slice none 0 0), (.slice none 0 0)], .box b6 29 [vb, eb], .box b4 29 [va, ea], .box b2 24 [.int .i64 n, ve]] := H.sink 1 1
        replace hD := hD.below hG
        refine ⟨fun _ => hD, ?_⟩
        exact (hM _ _ _ _).1 (hM261 _ _ _ b525 hge_b525 b24 hge_b24 (env_sub _ hA) H hD)
      · skip
        refine q_alloc 11 11 29 [(.slice none 0 0), (.slice none 0 0)] [(3, .int .i64 x), (4, .pointer (some ⟨b2, 0, none⟩)), (5, .pointer (some ⟨b4, 0, none⟩)), (6, .pointer (some ⟨b6, 0, none⟩)), (10, .pointer (some ⟨b24, 0, none⟩)), (39, .agg #[va, ea]), (40, .agg #[vb, eb]), (42, .agg #[va, ea]), (43, .agg #[vb, eb]), (45, .agg #[va, ea]), (46, .int .i64 x)] hA H fun b527 a w528 H hA hG hge_b527 => ?_
        replace hge_b527 := Nat.le_trans hD.1 hge_b527
        replace hD := hD.below hG
        refine ⟨fun _ => hD, ?_⟩
        exact (hM _ _ _ _).1 (hM263 _ _ _ b24 hge_b24 b527 hge_b527 (env_sub _ hA) H hD)
    have hM267 : ∀ (a : Act) (w529 : World) (S : Stab) (b26 : Nat) (hge_b26 : w11.heap.size ≤ b26), EnvOk 107 a (keepEnv [(3, .int .i64 x), (4, .pointer (some ⟨b2, 0, none⟩)), (5, .pointer (some ⟨b4, 0, none⟩)), (6, .pointer (some ⟨b6, 0, none⟩)), (11, .pointer (some ⟨b26, 0, none⟩)), (39, .agg #[va, ea]), (40, .agg #[vb, eb]), (42, .agg #[va, ea]), (43, .agg #[vb, eb]), (45, .agg #[va, ea]), (46, .int .i64 x)]) → Fr (org w) w529 S [.box b26 29 [(.slice none 0 0), (.slice none 0 0)], .box b6 29 [vb, eb], .box b4 29 [va, ea], .box b2 24 [.int .i64 n, ve]] → But w11 none w529 → M 8 #[true, true, false, true, true, false, true, true, false, false, false, true, false, false, false] a w529 := by
      intro a w529 S b26 hge_b26 hA H hD
      refine (hM _ _ _ _).2 ?_
      refine m_many [2, 9, 10] fun i_ hi_ => ?_
      simp only [List.mem_cons, List.not_mem_nil, or_false] at hi_
      rcases hi_ with rfl | rfl | rfl
      · skip
        refine q_call 2 41 42 #[.tmp 39, .tmp 40] #[29, 29] [.agg #[va, ea], .agg #[vb, eb]] (fun S v w' => Rd S w' v ((mergeL A C 2, mergeL B D 2))) [(3, .int .i64 x), (4, .pointer (some ⟨b2, 0, none⟩)), (5, .pointer (some ⟨b4, 0, none⟩)), (6, .pointer (some ⟨b6, 0, none⟩)), (11, .pointer (some ⟨b26, 0, none⟩)), (42, .agg #[va, ea]), (43, .agg #[vb, eb]), (45, .agg #[va, ea]), (46, .int .i64 x)] hA H (by exact and_any va ea vb eb A B C D H.at ((H.arg gA)) ((H.arg gB)) ((H.arg gC)) ((H.arg gD)) (by (try simp only [List.length_cons, List.length_nil]); omega) (by (try simp only [List.length_cons, List.length_nil]); omega)) fun v530 a w531 S hR532 H hA hG => ?_
        obtain ⟨v530a, v530b, rfl, hR532a, hR532b⟩ := two_rd hR532
        replace H := H.ro hR532a; replace H := H.ro hR532b
        replace H : Fr _ _ _ [.ro v530b (mergeL B D 2), .ro v530a (mergeL A C 2), .box b26 29 [(.slice none 0 0), (.slice none 0 0)], .box b6 29 [vb, eb], .box b4 29 [va, ea], .box b2 24 [.int .i64 n, ve]] := H
        replace H : Fr _ _ _ [.box b26 29 [(.slice none 0 0), (.slice none 0 0)], .ro v530b (mergeL B D 2), .ro v530a (mergeL A C 2), .box b6 29 [vb, eb], .box b4 29 [va, ea], .box b2 24 [.int .i64 n, ve]] := H.sink 2 1
        replace hD := hD.below hG
        refine ⟨fun _ => hD, ?_⟩
        exact (hM _ _ _ _).1 (hM260 _ _ _ v530a v530b b26 hge_b26 (env_sub _ hA) H hD)
      · skip
        refine q_alloc 9 9 29 [(.slice none 0 0), (.slice none 0 0)] [(3, .int .i64 x), (4, .pointer (some ⟨b2, 0, none⟩)), (5, .pointer (some ⟨b4, 0, none⟩)), (6, .pointer (some ⟨b6, 0, none⟩)), (11, .pointer (some ⟨b26, 0, none⟩)), (39, .agg #[va, ea]), (40, .agg #[vb, eb]), (42, .agg #[va, ea]), (43, .agg #[vb, eb]), (45, .agg #[va, ea]), (46, .int .i64 x)] hA H fun b535 a w536 H hA hG hge_b535 => ?_
        replace hge_b535 := Nat.le_trans hD.1 hge_b535
        replace H : Fr _ _ _ [.box b26 29 [(.slice none 0 0), (.slice none 0 0)], .box b535 29 [(.slice none 0 0), (.slice none 0 0)], .box b6 29 [vb, eb], .box b4 29 [va, ea], .box b2 24 [.int .i64 n, ve]] := H.sink 1 1
        replace hD := hD.below hG
        refine ⟨fun _ => hD, ?_⟩
        exact (hM _ _ _ _).1 (hM262 _ _ _ b535 hge_b535 b26 hge_b26 (env_sub _ hA) H hD)
      · skip
        refine q_alloc 10 10 29 [(.slice none 0 0), (.slice none 0 0)] [(3, .int .i64 x), (4, .pointer (some ⟨b2, 0, none⟩)), (5, .pointer (some ⟨b4, 0, none⟩)), (6, .pointer (some ⟨b6, 0, none⟩)), (11, .pointer (some ⟨b26, 0, none⟩)), (39, .agg #[va, ea]), (40, .agg #[vb, eb]), (42, .agg #[va, ea]), (43, .agg #[vb, eb]), (45, .agg #[va, ea]), (46, .int .i64 x)] hA H fun b537 a w538 H hA hG hge_b537 => ?_
        replace hge_b537 := Nat.le_trans hD.1 hge_b537
        replace H : Fr _ _ _ [.box b26 29 [(.slice none 0 0), (.slice none 0 0)], .box b537 29 [(.slice none 0 0), (.slice none 0 0)], .box b6 29 [vb, eb], .box b4 29 [va, ea], .box b2 24 [.int .i64 n, ve]] := H.sink 1 1
        replace hD := hD.below hG
        refine ⟨fun _ => hD, ?_⟩
        exact (hM _ _ _ _).1 (hM263 _ _ _ b537 hge_b537 b26 hge_b26 (env_sub _ hA) H hD)
    have hM268 : ∀ (a : Act) (w539 : World) (S : Stab), EnvOk 107 a (keepEnv [(3, .int .i64 x), (4, .pointer (some ⟨b2, 0, none⟩)), (5, .pointer (some ⟨b4, 0, none⟩)), (6, .pointer (some ⟨b6, 0, none⟩)), (39, .agg #[va, ea]), (40, .agg #[vb, eb]), (42, .agg #[va, ea]), (43, .agg #[vb, eb]), (45, .agg #[va, ea]), (46, .int .i64 x)]) → Fr (org w) w539 S [.box b6 29 [vb, eb], .box b4 29 [va, ea], .box b2 24 [.int .i64 n, ve]] → But w11 none w539 → M 9 #[true, true, false, true, true, false, true, true, false, false, false, false, false, false, false] a w539 := by
      intro a w539 S  hA H hD
      refine (hM _ _ _ _).2 ?_
      refine m_many [2, 9, 10, 11] fun i_ hi_ => ?_
      simp only [List.mem_cons, List.not_mem_nil, or_false] at hi_
      rcases hi_ with rfl | rfl | rfl | rfl
      · skip
        refine q_call 2 41 42 #[.tmp 39, .tmp 40] #[29, 29] [.agg #[va, ea], .agg #[vb, eb]] (fun S v w' => Rd S w' v ((mergeL A C 2, mergeL B D 2))) [(3, .int .i64 x), (4, .pointer (some ⟨b2, 0, none⟩)), (5, .pointer (some ⟨b4, 0, none⟩)), (6, .pointer (some ⟨b6, 0, none⟩)), (42, .agg #[va, ea]), (43, .agg #[vb, eb]), (45, .agg #[va, ea]), (46, .int .i64 x)] hA H (by exact and_any va ea vb eb A B C D H.at ((H.arg gA)) ((H.arg gB)) ((H.arg gC)) ((H.arg gD)) (by (try simp only [List.length_cons, List.length_nil]); omega) (by (try simp only [List.length_cons, List.length_nil]); omega)) fun v540 a w541 S hR542 H hA hG => ?_
        obtain ⟨v540a, v540b, rfl, hR542a, hR542b⟩ := two_rd hR542
        replace H := H.ro hR542a; replace H := H.ro hR542b
        replace H : Fr _ _ _ [.ro v540b (mergeL B D 2), .ro v540a (mergeL A C 2), .box b6 29 [vb, eb], .box b4 29 [va, ea], .box b2 24 [.int .i64 n, ve]] := H
        replace hD := hD.below hG
        refine ⟨fun _ => hD, ?_⟩
        exact (hM _ _ _ _).1 (hM264 _ _ _ v540a v540b (env_sub _ hA) H hD)
      · skip
        refine q_alloc 9 9 29 [(.slice none 0 0), (.slice none 0 0)] [(3, .int .i64 x), (4, .pointer (some ⟨b2, 0, none⟩)), (5, .pointer (some ⟨b4, 0, none⟩)), (6, .pointer (some ⟨b6, 0, none⟩)), (39, .agg #[va, ea]), (40, .agg #[vb, eb]), (42, .agg #[va, ea]), (43, .agg #[vb, eb]), (45, .agg #[va, ea]), (46, .int .i64 x)] hA H fun b545 a w546 H hA hG hge_b545 => ?_
        replace hge_b545 := Nat.le_trans hD.1 hge_b545
        replace hD := hD.below hG
        refine ⟨fun _ => hD, ?_⟩
        exact (hM _ _ _ _).1 (hM265 _ _ _ b545 hge_b545 (env_sub _ hA) H hD)
      · skip
        refine q_alloc 10 10 29 [(.slice none 0 0), (.slice none 0 0)] [(3, .int .i64 x), (4, .pointer (some ⟨b2, 0, none⟩)), (5, .pointer (some ⟨b4, 0, none⟩)), (6, .pointer (some ⟨b6, 0, none⟩)), (39, .agg #[va, ea]), (40, .agg #[vb, eb]), (42, .agg #[va, ea]), (43, .agg #[vb, eb]), (45, .agg #[va, ea]), (46, .int .i64 x)] hA H fun b547 a w548 H hA hG hge_b547 => ?_
        replace hge_b547 := Nat.le_trans hD.1 hge_b547
        replace hD := hD.below hG
        refine ⟨fun _ => hD, ?_⟩
        exact (hM _ _ _ _).1 (hM266 _ _ _ b547 hge_b547 (env_sub _ hA) H hD)
      · skip
        refine q_alloc 11 11 29 [(.slice none 0 0), (.slice none 0 0)] [(3, .int .i64 x), (4, .pointer (some ⟨b2, 0, none⟩)), (5, .pointer (some ⟨b4, 0, none⟩)), (6, .pointer (some ⟨b6, 0, none⟩)), (39, .agg #[va, ea]), (40, .agg #[vb, eb]), (42, .agg #[va, ea]), (43, .agg #[vb, eb]), (45, .agg #[va, ea]), (46, .int .i64 x)] hA H fun b549 a w550 H hA hG hge_b549 => ?_
        replace hge_b549 := Nat.le_trans hD.1 hge_b549
        replace hD := hD.below hG
        refine ⟨fun _ => hD, ?_⟩
        exact (hM _ _ _ _).1 (hM267 _ _ _ b549 hge_b549 (env_sub _ hA) H hD)
    exact hM268 _ _ _ (env_sub _ hA) H hD

end Go.Proofs.Ytahonnlgkmimlaa
