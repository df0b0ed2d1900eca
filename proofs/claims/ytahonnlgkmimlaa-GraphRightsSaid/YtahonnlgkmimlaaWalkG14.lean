/-
  Walks, written by program: Rights.
-/
import Derived.Test.YtahonnlgkmimlaaProg
import Derived.Test.YtahonnlgkmimlaaWalkG8
import Derived.Test.YtahonnlgkmimlaaGraphD
set_option linter.unusedSimpArgs false
set_option linter.unusedVariables false
namespace Go.Proofs.Ytahonnlgkmimlaa
open Go.RowKit

set_option maxRecDepth 100000 in
set_option maxHeartbeats 1000000 in
theorem graphRights_any (n : Int) (ve : Value) (E : List (Int × Int)) (vv vl : Value) (V L : List Int) (x d : Int) (w : World) (hn : -9223372036854775808 ≤ n ∧ n ≤ 9223372036854775807) (hE : Rd (· < w.heap.size) w ve E) (hV : Rd (· < w.heap.size) w vv V) (hL : Rd (· < w.heap.size) w vl L) (hd : -9223372036854775808 ≤ d ∧ d ≤ 9223372036854775807) :
  Calls Try.prog 5 [.agg #[.int .i64 n, ve], .agg #[vv, vl], .int .i64 x, .int .i64 d].toArray w (Ans (.bool true) w) := by
  have hlenE := rd_len hE
  refine enter Try.f5 116 Try.func5 fun a hA => ?_
  replace hA := env_sub [(0, .agg #[.int .i64 n, ve]), (1, .agg #[vv, vl]), (2, .int .i64 x), (3, .int .i64 d)] hA
  have H := Fr.start (org w)
  refine go_seq fun K1 hK1 => ?_
  refine region_list ?_
  refine list_at 0 ?_; refine q_box 0 4 24 (.tmp 0) (.agg #[.int .i64 n, ve]) [.int .i64 n, ve] [(1, .agg #[vv, vl]), (2, .int .i64 x), (3, .int .i64 d)] hA H fun b2 a w3 H hA hG hge_b2 => ?_
  clear hge_b2
  refine list_at 1 ?_; refine q_box 1 5 29 (.tmp 1) (.agg #[vv, vl]) [vv, vl] [(2, .int .i64 x), (3, .int .i64 d), (4, .pointer (some ⟨b2, 0, none⟩))] hA H fun b4 a w5 H hA hG hge_b4 => ?_
  clear hge_b4
  refine q_list 2 1 [] [(2, .int .i64 x), (3, .int .i64 d), (4, .pointer (some ⟨b2, 0, none⟩)), (5, .pointer (some ⟨b4, 0, none⟩))] ((True) ∧ True) hA H ⟨trivial, trivial⟩ fun a w6 hA H _ => ?_
  refine list_end ?_
  refine hK1 _ _ ?_
  refine go_seq fun K7 hK7 => ?_
  refine go_seq fun K8 hK8 => ?_
  refine q_reg [(13, .bool true), (16, .agg #[.int .i64 n, ve]), (17, .agg #[vv, vl]), (18, .int .i64 (smallI n E V L))] [(2, .int .i64 x), (3, .int .i64 d), (4, .pointer (some ⟨b2, 0, none⟩)), (5, .pointer (some ⟨b4, 0, none⟩)), (20, .bool (decide (smallI n E V L = 0)))] ((Callable Try.prog 17 ∧ CallOk Try.prog (On w6) 17 [].toArray (.bool true)) ∧ (True) ∧ (True) ∧ ((false) = false → (Try.prog.info? 24).isSome = true ∧ RowOk (On w6) b2 (0) (Try.prog.cellsOf 24) #[.int .i64 n, ve]) ∧ ((false) = false → (Try.prog.info? 29).isSome = true ∧ RowOk (On w6) b4 (0) (Try.prog.cellsOf 29) #[vv, vl]) ∧ ((false) = false → Callable Try.prog 18 ∧ CallOk Try.prog (On w6) 18 [.agg #[.int .i64 n, ve], .agg #[vv, vl]].toArray (.int .i64 (smallI n E V L))) ∧ ((false) = false → True) ∧ (True) ∧ True) hA H ⟨⟨callable_of, callOk_of fun w hw => by exact awake_any w⟩, trivial, trivial, fun _ => ⟨by kernel_rfl, by exact box_row H 1 rfl 0 2⟩, fun _ => ⟨by kernel_rfl, by exact box_row H 0 rfl 0 2⟩, fun hg0 => by replace hg0 := hg0; exact ⟨callable_of, callOk_of fun w hw => by exact small_any n ve E vv vl V L w (by omega) (((H.on hw).arg hE)) (((H.on hw).arg hV)) (((H.on hw).arg hL))⟩, fun _ => trivial, trivial, trivial⟩ fun a w9 hA H _ => ?_
  refine hK8 _ _ ?_
  refine go_cond hA (.tmp 20) (decide (smallI n E V L = 0)) (fun hb10 => ?_) (fun hb10 => ?_)
  · have hhb10 := of_decide_eq_true hb10
    refine go_seq fun K11 hK11 => ?_
    refine q_reg [(21, .bool true)] [(8, .bool true)] ((Callable Try.prog 17 ∧ CallOk Try.prog (On w9) 17 [].toArray (.bool true)) ∧ (True) ∧ True) hA H ⟨⟨callable_of, callOk_of fun w hw => by exact awake_any w⟩, trivial, trivial⟩ fun a w12 hA H _ => ?_
    refine hK11 _ _ ?_
    refine go_ret_ ?_
    refine ret_one 8 (.bool true) hA ?_
    exact ans_b' rfl H.below
  · have hhb10 := of_decide_eq_false hb10
    refine go_skip ?_
    refine hK7 _ _ ?_
    refine go_seq fun K13 hK13 => ?_
    refine go_seq fun K14 hK14 => ?_
    have hsm := small_1 (n := n) (E := E) (V := V) (L := L) (by omega)
    refine q_draw [(22, .agg #[.int .i64 n, ve]), (23, .int .i64 (rightE n E)), (24, .agg #[.int .i64 n, ve]), (25, .int .i64 (rightE n E)), (28, .agg #[.int .i64 n, ve]), (29, .agg #[vv, vl]), (30, .int .i64 (partE n E V L)), (31, .agg #[.int .i64 n, ve]), (32, .agg #[vv, vl]), (33, .int .i64 (partE n E V L))] [(2, .int .i64 x), (3, .int .i64 d), (4, .pointer (some ⟨b2, 0, none⟩)), (5, .pointer (some ⟨b4, 0, none⟩)), (35, .bool ((!decide (rightE n E = rightE n E)) || (!decide (partE n E V L = partE n E V L))))] (((Try.prog.info? 24).isSome = true ∧ RowOk (On w9) b2 (0) (Try.prog.cellsOf 24) #[.int .i64 n, ve]) ∧ (Callable Try.prog 20 ∧ CallOk Try.prog (On w9) 20 [.agg #[.int .i64 n, ve]].toArray (.int .i64 (rightE n E))) ∧ ((Try.prog.info? 24).isSome = true ∧ RowOk (On w9) b2 (0) (Try.prog.cellsOf 24) #[.int .i64 n, ve]) ∧ (Callable Try.prog 27 ∧ CallOk Try.prog (On w9) 27 [.agg #[.int .i64 n, ve]].toArray (.int .i64 (rightE n E))) ∧ (True) ∧ (True) ∧ ((!decide (rightE n E = rightE n E)) = false → (Try.prog.info? 24).isSome = true ∧ RowOk (On w9) b2 (0) (Try.prog.cellsOf 24) #[.int .i64 n, ve]) ∧ ((!decide (rightE n E = rightE n E)) = false → (Try.prog.info? 29).isSome = true ∧ RowOk (On w9) b4 (0) (Try.prog.cellsOf 29) #[vv, vl]) ∧ ((!decide (rightE n E = rightE n E)) = false → Callable Try.prog 31 ∧ CallOk Try.prog (On w9) 31 [.agg #[.int .i64 n, ve], .agg #[vv, vl]].toArray (.int .i64 (partE n E V L))) ∧ ((!decide (rightE n E = rightE n E)) = false → (Try.prog.info? 24).isSome = true ∧ RowOk (On w9) b2 (0) (Try.prog.cellsOf 24) #[.int .i64 n, ve]) ∧ ((!decide (rightE n E = rightE n E)) = false → (Try.prog.info? 29).isSome = true ∧ RowOk (On w9) b4 (0) (Try.prog.cellsOf 29) #[vv, vl]) ∧ ((!decide (rightE n E = rightE n E)) = false → Callable Try.prog 32 ∧ CallOk Try.prog (On w9) 32 [.agg #[.int .i64 n, ve], .agg #[vv, vl]].toArray (.int .i64 (partE n E V L))) ∧ ((!decide (rightE n E = rightE n E)) = false → True) ∧ (True) ∧ True) hA H ⟨⟨by kernel_rfl, by exact box_row H 1 rfl 0 2⟩, ⟨callable_of, callOk_of fun w hw => by exact right_any n ve E w (by omega) (((H.on hw).arg hE))⟩, ⟨by kernel_rfl, by exact box_row H 1 rfl 0 2⟩, ⟨callable_of, callOk_of fun w hw => by exact rright_any n ve E w (by omega) (((H.on hw).arg hE))⟩, trivial, trivial, fun _ => ⟨by kernel_rfl, by exact box_row H 1 rfl 0 2⟩, fun _ => ⟨by kernel_rfl, by exact box_row H 0 rfl 0 2⟩, fun hg0 => by replace hg0 := of_decide_eq_true (nF hg0); exact ⟨callable_of, callOk_of fun w hw => by exact rightPart_any n ve E vv vl V L w (by omega) (((H.on hw).arg hE)) (((H.on hw).arg hV)) (((H.on hw).arg hL))⟩, fun _ => ⟨by kernel_rfl, by exact box_row H 1 rfl 0 2⟩, fun _ => ⟨by kernel_rfl, by exact box_row H 0 rfl 0 2⟩, fun hg0 => by replace hg0 := of_decide_eq_true (nF hg0); exact ⟨callable_of, callOk_of fun w hw => by exact rrightPart_any n ve E vv vl V L w (by omega) (((H.on hw).arg hE)) (((H.on hw).arg hV)) (((H.on hw).arg hL))⟩, fun _ => trivial, trivial, trivial⟩ fun a w15 hA H _ => ?_
    refine hK14 _ _ ?_
    refine go_cond hA (.tmp 35) ((!decide (rightE n E = rightE n E)) || (!decide (partE n E V L = partE n E V L))) (fun h => by simp [] at h) (fun _ => ?_)
    refine go_skip ?_
    refine hK13 _ _ ?_
    refine go_seq fun K17 hK17 => ?_
    refine region_list ?_
    refine q_list 0 3 [(36, .agg #[.int .i64 n, ve]), (37, .agg #[vv, vl])] [(2, .int .i64 x), (3, .int .i64 d), (4, .pointer (some ⟨b2, 0, none⟩)), (5, .pointer (some ⟨b4, 0, none⟩)), (36, .agg #[.int .i64 n, ve]), (37, .agg #[vv, vl]), (38, .int .i64 x)] (((Try.prog.info? 24).isSome = true ∧ RowOk (On w15) b2 (0) (Try.prog.cellsOf 24) #[.int .i64 n, ve]) ∧ ((Try.prog.info? 29).isSome = true ∧ RowOk (On w15) b4 (0) (Try.prog.cellsOf 29) #[vv, vl]) ∧ (True) ∧ True) hA H ⟨⟨by kernel_rfl, by exact box_row H 1 rfl 0 2⟩, ⟨by kernel_rfl, by exact box_row H 0 rfl 0 2⟩, trivial, trivial⟩ fun a w18 hA H _ => ?_
    refine list_at 3 ?_; refine q_call 3 39 22 #[.tmp 36, .tmp 37, .tmp 38] #[24, 29, 3] [.agg #[.int .i64 n, ve], .agg #[vv, vl], .int .i64 x] (fun S v w' => Rd S w' v (dartsE n E V L x)) [(2, .int .i64 x), (3, .int .i64 d), (4, .pointer (some ⟨b2, 0, none⟩)), (5, .pointer (some ⟨b4, 0, none⟩))] hA H (by exact darts_any n ve E vv vl V L x H.at (by omega) ((H.arg hE)) ((H.arg hV)) ((H.arg hL))) fun v19 a w20 S hR21 H hA hG => ?_
    replace H := H.ro hR21
    refine q_list 4 1 [] [(2, .int .i64 x), (3, .int .i64 d), (4, .pointer (some ⟨b2, 0, none⟩)), (5, .pointer (some ⟨b4, 0, none⟩)), (9, v19)] ((True) ∧ True) hA H ⟨trivial, trivial⟩ fun a w23 hA H _ => ?_
    refine list_end ?_
    refine hK17 _ _ ?_
    refine go_seq fun K24 hK24 => ?_
    refine q_reg [(41, .agg #[.int .i64 n, ve]), (43, .tuple #[.int .i64 ((endsE n E d).1), .int .i64 ((endsE n E d).2.1), .bool ((endsE n E d).2.2)])] [(2, .int .i64 x), (3, .int .i64 d), (4, .pointer (some ⟨b2, 0, none⟩)), (5, .pointer (some ⟨b4, 0, none⟩)), (9, v19), (10, .int .i64 ((endsE n E d).1)), (11, .int .i64 ((endsE n E d).2.1)), (12, .bool ((endsE n E d).2.2))] (((Try.prog.info? 24).isSome = true ∧ RowOk (On w23) b2 (0) (Try.prog.cellsOf 24) #[.int .i64 n, ve]) ∧ (True) ∧ (Callable Try.prog 19 ∧ CallOk Try.prog (On w23) 19 [.agg #[.int .i64 n, ve], .int .i64 d].toArray (.tuple #[.int .i64 ((endsE n E d).1), .int .i64 ((endsE n E d).2.1), .bool ((endsE n E d).2.2)])) ∧ (True) ∧ (True) ∧ (True) ∧ (True) ∧ (True) ∧ (True) ∧ (True) ∧ True) hA H ⟨⟨by kernel_rfl, by exact box_row H 2 rfl 0 2⟩, trivial, ⟨callable_of, callOk_of fun w hw => by exact ends_any n ve E d w (by omega) (((H.on hw).arg hE)) (by omega)⟩, trivial, trivial, trivial, trivial, trivial, trivial, trivial, trivial⟩ fun a w25 hA H _ => ?_
    refine hK24 _ _ ?_
    refine go_seq fun K26 hK26 => ?_
    refine go_seq fun K27 hK27 => ?_
    refine q_reg [(47, .agg #[.int .i64 n, ve]), (48, .int .i64 (rightE n E))] [(2, .int .i64 x), (3, .int .i64 d), (4, .pointer (some ⟨b2, 0, none⟩)), (5, .pointer (some ⟨b4, 0, none⟩)), (9, v19), (10, .int .i64 ((endsE n E d).1)), (11, .int .i64 ((endsE n E d).2.1)), (12, .bool ((endsE n E d).2.2)), (49, .bool (!decide (rightE n E = 0)))] (((Try.prog.info? 24).isSome = true ∧ RowOk (On w25) b2 (0) (Try.prog.cellsOf 24) #[.int .i64 n, ve]) ∧ (Callable Try.prog 27 ∧ CallOk Try.prog (On w25) 27 [.agg #[.int .i64 n, ve]].toArray (.int .i64 (rightE n E))) ∧ (True) ∧ True) hA H ⟨⟨by kernel_rfl, by exact box_row H 2 rfl 0 2⟩, ⟨callable_of, callOk_of fun w hw => by exact rright_any n ve E w (by omega) (((H.on hw).arg hE))⟩, trivial, trivial⟩ fun a w28 hA H _ => ?_
    refine hK27 _ _ ?_
    refine go_cond hA (.tmp 49) (!decide (rightE n E = 0)) (fun hb29 => ?_) (fun hb29 => ?_)
    · have hhb29 := of_decide_eq_false (nT hb29)
      refine go_seq fun K30 hK30 => ?_
      have hbad := hhb29
      refine region_list ?_
      refine q_list 0 8 [(51, .int .i64 ((dartsE n E V L x).length : Int))] [(4, .pointer (some ⟨b2, 0, none⟩)), (57, .bool ((decide (((dartsE n E V L x).length : Int) = 0)) && (!((endsE n E d).2.2))))] ((True) ∧ (LenOk v19 ((dartsE n E V L x).length : Int)) ∧ (True) ∧ (True) ∧ ((decide (((dartsE n E V L x).length : Int) = 0)) = true → True) ∧ ((decide (((dartsE n E V L x).length : Int) = 0)) = true → True) ∧ (True) ∧ (True) ∧ True) hA H ⟨trivial, by exact len_ok (H.get 0 rfl), trivial, trivial, fun _ => trivial, fun _ => trivial, trivial, trivial, trivial⟩ fun a w31 hA H _ => ?_
      have hb32 : ((decide (((dartsE n E V L x).length : Int) = 0)) && (!((endsE n E d).2.2))) = true := (by rw [rights_bad hbad]; simp [rights_ends hbad])
      have hhb32 := (⟨of_decide_eq_true ((aT hb32).1), (nT ((aT hb32).2))⟩ : _ ∧ _)
      refine q_listK [(57, true)] 8 1 [(58, .agg #[.int .i64 n, ve])] [(57, .bool ((decide (((dartsE n E V L x).length : Int) = 0)) && (!((endsE n E d).2.2)))), (58, .agg #[.int .i64 n, ve])] ((((((decide (((dartsE n E V L x).length : Int) = 0)) && (!((endsE n E d).2.2))) = true) ∧ True) ∧ ((Try.prog.info? 24).isSome = true ∧ RowOk (On w31) b2 (0) (Try.prog.cellsOf 24) #[.int .i64 n, ve])) ∧ True) hA H ⟨⟨⟨hb32, trivial⟩, ⟨by kernel_rfl, by exact box_row H 2 rfl 0 2⟩⟩, trivial⟩ fun a w33 hA H _ => ?_
      refine list_at 9 ?_; refine op_on [(57, true)] ((((decide (((dartsE n E V L x).length : Int) = 0)) && (!((endsE n E d).2.2))) = true) ∧ True) hA ⟨hb32, trivial⟩ ?_; refine q_call 9 59 23 #[.tmp 58] #[24] [.agg #[.int .i64 n, ve]] (fun S v w' => Rd S w' v (wholeE n E)) [(57, .bool ((decide (((dartsE n E V L x).length : Int) = 0)) && (!((endsE n E d).2.2))))] hA H (by exact whole_any n ve E H.at (by omega) ((H.arg hE))) fun v34 a w35 S hR36 H hA hG => ?_
      obtain ⟨v34a, v34b, rfl, hR36a, hR36b⟩ := two_rd hR36
      replace H := H.ro hR36a; replace H := H.ro hR36b
      replace H : Fr _ _ _ [.ro v34b ((wholeE n E).2), .ro v34a ((wholeE n E).1), .ro v19 (dartsE n E V L x), .box b4 29 [vv, vl], .box b2 24 [.int .i64 n, ve]] := H
      refine q_listK [(57, true)] 10 4 [(60, .agg #[(.slice none 0 0), (.slice none 0 0)]), (61, .bool (decide (((wholeE n E).1) = []) && decide (((wholeE n E).2) = [])))] [(8, .bool (decide (((wholeE n E).1) = []) && decide (((wholeE n E).2) = [])))] ((((((decide (((dartsE n E V L x).length : Int) = 0)) && (!((endsE n E d).2.2))) = true) ∧ True) ∧ (∀ w, (Instr.build 29 #[]).run Try.prog w = .ok (.agg #[(.slice none 0 0), (.slice none 0 0)]) w)) ∧ (((((decide (((dartsE n E V L x).length : Int) = 0)) && (!((endsE n E d).2.2))) = true) ∧ True) ∧ (Callable Try.prog 28 ∧ CallOk Try.prog (On w35) 28 [.agg #[v34a, v34b], .agg #[(.slice none 0 0), (.slice none 0 0)]].toArray (.bool (decide (((wholeE n E).1) = []) && decide (((wholeE n E).2) = []))))) ∧ ((True) ∧ (((decide (((dartsE n E V L x).length : Int) = 0)) && (!((endsE n E d).2.2))) = true)) ∧ ((True) ∧ (True)) ∧ True) hA H ⟨⟨⟨hb32, trivial⟩, fun w => by kernel_rfl⟩, ⟨⟨hb32, trivial⟩, ⟨callable_of, callOk_of fun w hw => by exact same_any v34a v34b (.slice none 0 0) (.slice none 0 0) ((wholeE n E).1) ((wholeE n E).2) [] [] w (((H.on hw).get 1 rfl)) (((H.on hw).get 0 rfl)) (rd_nil) (rd_nil)⟩⟩, ⟨trivial, hb32⟩, ⟨trivial, trivial⟩, trivial⟩ fun a w39 hA H _ => ?_
      refine list_end ?_
      refine hK30 _ _ ?_
      refine go_ret_ ?_
      refine ret_one 8 (.bool (decide (((wholeE n E).1) = []) && decide (((wholeE n E).2) = []))) hA ?_
      exact ans_b' (by rw [rights_whole hbad]; simp) H.below
    · have hhb29 := of_decide_eq_true (nF hb29)
      refine go_skip ?_
      refine hK26 _ _ ?_
      refine go_seq fun K40 hK40 => ?_
      refine go_seq fun K41 hK41 => ?_
      have hgd : rightE n E = 0 := by have := hhb29; omega
      have hr0 := rightE_0 hgd
      have H0 := H
      have hM0 := H0.keeps none (.inl rfl)
      refine region_mix (But w28 none) [0, 1, 2, 3, 4, 5, 6, 7, 8, 9, 10] 11 ?_
      replace H := H.drawn; have hD := But.drew w28 none
      generalize ({ w28 with drawn := w28.drawn + 1 } : World) = w42 at H hD ⊢
      refine m_take (n := 7) [0, 1, 2, 3] #[true, true, true, true, false, false, false, false, false, false, false] [(64, .int .i64 n)] [(2, .int .i64 x), (3, .int .i64 d), (4, .pointer (some ⟨b2, 0, none⟩)), (5, .pointer (some ⟨b4, 0, none⟩)), (9, v19), (10, .int .i64 ((endsE n E d).1)), (11, .int .i64 ((endsE n E d).2.1)), (12, .bool ((endsE n E d).2.2)), (66, .bool (decide (n ≤ 60)))] ((0 < Try.prog.cellsOf 3) ∧ (CellOk (But w28 none) b2 (0 + 0) (.int .i64 n)) ∧ (True) ∧ (True) ∧ True) hA hD ⟨by decide +kernel, by exact box_cellC (box_atC H0 none 2 rfl (fun e => by cases e)) 0, trivial, trivial, trivial⟩ fun a hA => ?_
      rcases bool_two (decide (n ≤ 60)) with hb43 | hb43
      · have hhb43 := of_decide_eq_true hb43
        refine m_takeE (n := 5) [(66, true)] [4, 6] #[true, true, true, true, true, false, true, false, false, false, false] [(67, .agg #[.int .i64 n, ve]), (69, .agg #[.int .i64 n, ve])] [⟨2, [], .int .i64 x⟩, ⟨3, [], .int .i64 d⟩, ⟨4, [], .pointer (some ⟨b2, 0, none⟩)⟩, ⟨5, [], .pointer (some ⟨b4, 0, none⟩)⟩, ⟨9, [], v19⟩, ⟨10, [], .int .i64 ((endsE n E d).1)⟩, ⟨11, [], .int .i64 ((endsE n E d).2.1)⟩, ⟨12, [], .bool ((endsE n E d).2.2)⟩, ⟨66, [], .bool (decide (n ≤ 60))⟩, ⟨67, [], .agg #[.int .i64 n, ve]⟩, ⟨69, [], .agg #[.int .i64 n, ve]⟩] (((((decide (n ≤ 60)) = true) ∧ True) ∧ ((Try.prog.info? 24).isSome = true ∧ RowOk (But w28 none) b2 (0) (Try.prog.cellsOf 24) #[.int .i64 n, ve])) ∧ ((((decide (n ≤ 60)) = true) ∧ True) ∧ ((Try.prog.info? 24).isSome = true ∧ RowOk (But w28 none) b2 (0) (Try.prog.cellsOf 24) #[.int .i64 n, ve])) ∧ True) hA hD ⟨⟨⟨hb43, trivial⟩, ⟨by kernel_rfl, by exact box_rowC (box_atC H0 none 2 rfl (fun e => by cases e)) 0 2⟩⟩, ⟨⟨hb43, trivial⟩, ⟨by kernel_rfl, by exact box_rowC (box_atC H0 none 2 rfl (fun e => by cases e)) 0 2⟩⟩, trivial⟩ fun a hA => ?_
        refine m_one 5 ?_; refine op_on [(66, true)] (((decide (n ≤ 60)) = true) ∧ True) hA ⟨hb43, trivial⟩ ?_; refine q_call 5 68 23 #[.tmp 67] #[24] [.agg #[.int .i64 n, ve]] (fun S v w' => Rd S w' v (wholeE n E)) [(2, .int .i64 x), (3, .int .i64 d), (4, .pointer (some ⟨b2, 0, none⟩)), (5, .pointer (some ⟨b4, 0, none⟩)), (9, v19), (10, .int .i64 ((endsE n E d).1)), (11, .int .i64 ((endsE n E d).2.1)), (12, .bool ((endsE n E d).2.2)), (66, .bool (decide (n ≤ 60))), (69, .agg #[.int .i64 n, ve])] hA H (by exact whole_any n ve E H.at (by omega) ((H.arg hE))) fun v44 a w45 S hR46 H hA hG => ?_
        obtain ⟨v44a, v44b, rfl, hR46a, hR46b⟩ := two_rd hR46
        replace H := H.ro hR46a; replace H := H.ro hR46b
        replace H : Fr _ _ _ [.ro v44b ((wholeE n E).2), .ro v44a ((wholeE n E).1), .ro v19 (dartsE n E V L x), .box b4 29 [vv, vl], .box b2 24 [.int .i64 n, ve]] := H
        replace hD := hD.below hG
        refine ⟨fun _ => hD, ?_⟩
        refine m_one 7 ?_; refine op_on [(66, true)] (((decide (n ≤ 60)) = true) ∧ True) hA ⟨hb43, trivial⟩ ?_; refine q_call 7 70 33 #[.tmp 69] #[24] [.agg #[.int .i64 n, ve]] (fun S v w' => Rd S w' v ((upto n, upto (E.length : Int)))) [(2, .int .i64 x), (3, .int .i64 d), (4, .pointer (some ⟨b2, 0, none⟩)), (5, .pointer (some ⟨b4, 0, none⟩)), (9, v19), (10, .int .i64 ((endsE n E d).1)), (11, .int .i64 ((endsE n E d).2.1)), (12, .bool ((endsE n E d).2.2)), (66, .bool (decide (n ≤ 60))), (68, .agg #[v44a, v44b])] hA H (by exact rwhole_any n ve E H.at (by omega) ((H.arg hE)) (by omega) (by omega)) fun v49 a w50 S hR51 H hA hG => ?_
        obtain ⟨v49a, v49b, rfl, hR51a, hR51b⟩ := two_rd hR51
        replace H := H.ro hR51a; replace H := H.ro hR51b
        replace H : Fr _ _ _ [.ro v49b (upto (E.length : Int)), .ro v49a (upto n), .ro v44b ((wholeE n E).2), .ro v44a ((wholeE n E).1), .ro v19 (dartsE n E V L x), .box b4 29 [vv, vl], .box b2 24 [.int .i64 n, ve]] := H
        replace hD := hD.below hG
        refine ⟨fun _ => hD, ?_⟩
        refine m_one 8 ?_; refine q_oneE [(66, true)] 8 [(71, .bool (decide (((wholeE n E).1) = (upto n)) && decide (((wholeE n E).2) = (upto (E.length : Int)))))] [⟨2, [], .int .i64 x⟩, ⟨3, [], .int .i64 d⟩, ⟨4, [], .pointer (some ⟨b2, 0, none⟩)⟩, ⟨5, [], .pointer (some ⟨b4, 0, none⟩)⟩, ⟨9, [], v19⟩, ⟨10, [], .int .i64 ((endsE n E d).1)⟩, ⟨11, [], .int .i64 ((endsE n E d).2.1)⟩, ⟨12, [], .bool ((endsE n E d).2.2)⟩, ⟨66, [], .bool (decide (n ≤ 60))⟩, ⟨71, [], .bool (decide (((wholeE n E).1) = (upto n)) && decide (((wholeE n E).2) = (upto (E.length : Int))))⟩] (((((decide (n ≤ 60)) = true) ∧ True) ∧ (Callable Try.prog 29 ∧ CallOk Try.prog (On w50) 29 [.agg #[v44a, v44b], .agg #[v49a, v49b]].toArray (.bool (decide (((wholeE n E).1) = (upto n)) && decide (((wholeE n E).2) = (upto (E.length : Int))))))) ∧ True) hA H ⟨⟨⟨hb43, trivial⟩, ⟨callable_of, callOk_of fun w hw => by exact rsame_any v44a v44b v49a v49b ((wholeE n E).1) ((wholeE n E).2) (upto n) (upto (E.length : Int)) w (((H.on hw).get 3 rfl)) (((H.on hw).get 2 rfl)) (((H.on hw).get 1 rfl)) (((H.on hw).get 0 rfl))⟩⟩, trivial⟩ fun a w54 H hA hG => ?_
        replace hD := hD.below hG
        refine ⟨fun _ => hD, ?_⟩
        refine m_takeE (n := 0) [(66, true)] [9, 10] #[true, true, true, true, true, true, true, true, true, true, true] [] [⟨2, [], .int .i64 x⟩, ⟨3, [], .int .i64 d⟩, ⟨4, [], .pointer (some ⟨b2, 0, none⟩)⟩, ⟨5, [], .pointer (some ⟨b4, 0, none⟩)⟩, ⟨9, [], v19⟩, ⟨10, [], .int .i64 ((endsE n E d).1)⟩, ⟨11, [], .int .i64 ((endsE n E d).2.1)⟩, ⟨12, [], .bool ((endsE n E d).2.2)⟩, ⟨73, [], .bool (!(decide (((wholeE n E).1) = (upto n)) && decide (((wholeE n E).2) = (upto (E.length : Int)))))⟩] (((((decide (n ≤ 60)) = true) ∧ True) ∧ (True)) ∧ ((True) ∧ ((decide (n ≤ 60)) = true)) ∧ True) hA hD ⟨⟨⟨hb43, trivial⟩, trivial⟩, ⟨trivial, hb43⟩, trivial⟩ fun a hA => ?_
        refine m_end ?_
        refine hK41 _ _ ?_
        refine go_cond hA (.tmp 73) (!(decide (((wholeE n E).1) = (upto n)) && decide (((wholeE n E).2) = (upto (E.length : Int))))) (fun hb55 => ?_) (fun hb55 => ?_)
        · have hhb55 := (nT hb55)
          refine go_seq fun K56 hK56 => ?_
          refine q_reg [] [(8, .bool false)] ((True) ∧ True) hA H ⟨trivial, trivial⟩ fun a w57 hA H _ => ?_
          refine hK56 _ _ ?_
          refine go_ret_ ?_
          refine ret_one 8 (.bool false) hA ?_
          exact absurd hhb55 (by first | (rw [wholeE_ok (by omega)]; simp; done) | (rw [wholeE_ok (by omega)]; simp; intro; simp; done) | (simp; exact ⟨rights_ok hgd, fun h => rights_eq h⟩) | simp)
        · have hhb55 := (nF hb55)
          refine go_skip ?_
          refine hK40 _ _ ?_
          refine go_seq fun K58 hK58 => ?_
          refine go_seq fun K59 hK59 => ?_
          have hz : (endsE n E d).2.2 = true → 0 ≤ d ∧ d / 2 < (E.length : Int) ∧ d ≤ 1000000 := fun h => by have := ends_ok h; omega
          refine q_reg [(81, ve), (82, .int .i64 (E.length : Int)), (90, .agg #[.int .i64 n, ve]), (92, .int .i64 (tailE E d)), (96, .agg #[.int .i64 n, ve]), (98, .int .i64 (tailE E (twinE d)))] [(2, .int .i64 x), (4, .pointer (some ⟨b2, 0, none⟩)), (5, .pointer (some ⟨b4, 0, none⟩)), (9, v19), (102, .bool ((!(((endsE n E d).2.2) == ((decide ((0 : Int) ≤ d)) && (decide (d / 2 < (E.length : Int)))))) || (((endsE n E d).2.2) && ((!decide ((endsE n E d).1 = tailE E d)) || (!decide ((endsE n E d).2.1 = tailE E (twinE d)))))))] ((True) ∧ (True) ∧ (True) ∧ (True) ∧ ((decide ((0 : Int) ≤ d)) = true → True) ∧ ((decide ((0 : Int) ≤ d)) = true → 0 ≤ d ∧ 0 < (2 : Int) ∧ InR .i64 d) ∧ ((decide ((0 : Int) ≤ d)) = true → 0 < Try.prog.cellsOf 22) ∧ ((decide ((0 : Int) ≤ d)) = true → CellOk (On w54) b2 (0 + 1) (ve)) ∧ ((decide ((0 : Int) ≤ d)) = true → LenOk ve (E.length : Int)) ∧ ((decide ((0 : Int) ≤ d)) = true → True) ∧ (True) ∧ (Try.prog.underlying 4 = some .bool) ∧ (True) ∧ ((!(((endsE n E d).2.2) == ((decide ((0 : Int) ≤ d)) && (decide (d / 2 < (E.length : Int)))))) = false → True) ∧ ((!(((endsE n E d).2.2) == ((decide ((0 : Int) ≤ d)) && (decide (d / 2 < (E.length : Int)))))) = false → True) ∧ ((!(((endsE n E d).2.2) == ((decide ((0 : Int) ≤ d)) && (decide (d / 2 < (E.length : Int)))))) = false → ((endsE n E d).2.2) = true → True) ∧ ((!(((endsE n E d).2.2) == ((decide ((0 : Int) ≤ d)) && (decide (d / 2 < (E.length : Int)))))) = false → ((endsE n E d).2.2) = true → (Try.prog.info? 24).isSome = true ∧ RowOk (On w54) b2 (0) (Try.prog.cellsOf 24) #[.int .i64 n, ve]) ∧ ((!(((endsE n E d).2.2) == ((decide ((0 : Int) ≤ d)) && (decide (d / 2 < (E.length : Int)))))) = false → ((endsE n E d).2.2) = true → True) ∧ ((!(((endsE n E d).2.2) == ((decide ((0 : Int) ≤ d)) && (decide (d / 2 < (E.length : Int)))))) = false → ((endsE n E d).2.2) = true → Callable Try.prog 34 ∧ CallOk Try.prog (On w54) 34 [.agg #[.int .i64 n, ve], .int .i64 d].toArray (.int .i64 (tailE E d))) ∧ ((!(((endsE n E d).2.2) == ((decide ((0 : Int) ≤ d)) && (decide (d / 2 < (E.length : Int)))))) = false → ((endsE n E d).2.2) = true → True) ∧ ((!(((endsE n E d).2.2) == ((decide ((0 : Int) ≤ d)) && (decide (d / 2 < (E.length : Int)))))) = false → ((endsE n E d).2.2) = true → True) ∧ ((!(((endsE n E d).2.2) == ((decide ((0 : Int) ≤ d)) && (decide (d / 2 < (E.length : Int)))))) = false → ((endsE n E d).2.2) = true → (!decide ((endsE n E d).1 = tailE E d)) = false → True) ∧ ((!(((endsE n E d).2.2) == ((decide ((0 : Int) ≤ d)) && (decide (d / 2 < (E.length : Int)))))) = false → ((endsE n E d).2.2) = true → (!decide ((endsE n E d).1 = tailE E d)) = false → (Try.prog.info? 24).isSome = true ∧ RowOk (On w54) b2 (0) (Try.prog.cellsOf 24) #[.int .i64 n, ve]) ∧ ((!(((endsE n E d).2.2) == ((decide ((0 : Int) ≤ d)) && (decide (d / 2 < (E.length : Int)))))) = false → ((endsE n E d).2.2) = true → (!decide ((endsE n E d).1 = tailE E d)) = false → True) ∧ ((!(((endsE n E d).2.2) == ((decide ((0 : Int) ≤ d)) && (decide (d / 2 < (E.length : Int)))))) = false → ((endsE n E d).2.2) = true → (!decide ((endsE n E d).1 = tailE E d)) = false → Callable Try.prog 35 ∧ CallOk Try.prog (On w54) 35 [.agg #[.int .i64 n, ve], .int .i64 d].toArray (.int .i64 (tailE E (twinE d)))) ∧ ((!(((endsE n E d).2.2) == ((decide ((0 : Int) ≤ d)) && (decide (d / 2 < (E.length : Int)))))) = false → ((endsE n E d).2.2) = true → (!decide ((endsE n E d).1 = tailE E d)) = false → True) ∧ ((!(((endsE n E d).2.2) == ((decide ((0 : Int) ≤ d)) && (decide (d / 2 < (E.length : Int)))))) = false → ((endsE n E d).2.2) = true → True) ∧ ((!(((endsE n E d).2.2) == ((decide ((0 : Int) ≤ d)) && (decide (d / 2 < (E.length : Int)))))) = false → True) ∧ (True) ∧ True) hA H ⟨trivial, trivial, trivial, trivial, fun _ => trivial, fun hg0 => by replace hg0 := of_decide_eq_true hg0; exact ⟨by omega, by omega, by omega, by omega⟩, fun _ => by decide +kernel, fun _ => by exact box_cell H 6 rfl 1, fun _ => by exact len_ok (H.arg hE), fun _ => trivial, trivial, Try.underlying4, trivial, fun _ => trivial, fun _ => trivial, fun _ _ => trivial, fun _ _ => ⟨by kernel_rfl, by exact box_row H 6 rfl 0 2⟩, fun _ _ => trivial, fun hg0 hg1 => by replace hg0 := hg0; replace hg1 := hg1; exact ⟨callable_of, callOk_of fun w hw => by exact tail_any n ve E d w (by omega) (((H.on hw).arg hE)) (by have := hz (by assumption); omega) (by have := hz (by assumption); omega) (by have := hz (by assumption); omega)⟩, fun _ _ => trivial, fun _ _ => trivial, fun _ _ _ => trivial, fun _ _ _ => ⟨by kernel_rfl, by exact box_row H 6 rfl 0 2⟩, fun _ _ _ => trivial, fun hg0 hg1 hg2 => by replace hg0 := hg0; replace hg1 := hg1; replace hg2 := of_decide_eq_true (nF hg2); exact ⟨callable_of, callOk_of fun w hw => by exact head_any n ve E d w (by omega) (((H.on hw).arg hE)) (by have := hz (by assumption); omega) (by have := hz (by assumption); omega) (by have := hz (by assumption); omega)⟩, fun _ _ _ => trivial, fun _ _ => trivial, fun _ => trivial, trivial, trivial⟩ fun a w60 hA H _ => ?_
          refine hK59 _ _ ?_
          refine go_cond hA (.tmp 102) ((!(((endsE n E d).2.2) == ((decide ((0 : Int) ≤ d)) && (decide (d / 2 < (E.length : Int)))))) || (((endsE n E d).2.2) && ((!decide ((endsE n E d).1 = tailE E d)) || (!decide ((endsE n E d).2.1 = tailE E (twinE d)))))) (fun hb61 => ?_) (fun hb61 => ?_)
          · have hhb61 := (oT hb61).imp (fun h => h) (fun h => (⟨(aT h).1, (oT ((aT h).2)).imp (fun h => of_decide_eq_false (nT h)) (fun h => of_decide_eq_false (nT h))⟩ : _ ∧ _))
            refine go_seq fun K62 hK62 => ?_
            refine q_reg [] [(8, .bool false)] ((True) ∧ True) hA H ⟨trivial, trivial⟩ fun a w63 hA H _ => ?_
            refine hK62 _ _ ?_
            refine go_ret_ ?_
            refine ret_one 8 (.bool false) hA ?_
            exact absurd hhb61 (by first | (rw [wholeE_ok (by omega)]; simp; done) | (rw [wholeE_ok (by omega)]; simp; intro; simp; done) | (simp; exact ⟨rights_ok hgd, fun h => rights_eq h⟩) | simp)
          · have hhb61 := (⟨(oF hb61).1, (aF ((oF hb61).2)).imp (fun h => h) (fun h => (⟨of_decide_eq_true (nF ((oF h).1)), of_decide_eq_true (nF ((oF h).2))⟩ : _ ∧ _))⟩ : _ ∧ _)
            refine go_skip ?_
            refine hK58 _ _ ?_
            refine go_seq fun K64 hK64 => ?_
            refine go_seq fun K65 hK65 => ?_
            refine q_reg [(103, .agg #[.int .i64 n, ve]), (104, .agg #[vv, vl]), (105, .int .i64 (partE n E V L))] [(2, .int .i64 x), (4, .pointer (some ⟨b2, 0, none⟩)), (5, .pointer (some ⟨b4, 0, none⟩)), (9, v19), (106, .bool (!decide (partE n E V L = 0)))] (((Try.prog.info? 24).isSome = true ∧ RowOk (On w60) b2 (0) (Try.prog.cellsOf 24) #[.int .i64 n, ve]) ∧ ((Try.prog.info? 29).isSome = true ∧ RowOk (On w60) b4 (0) (Try.prog.cellsOf 29) #[vv, vl]) ∧ (Callable Try.prog 32 ∧ CallOk Try.prog (On w60) 32 [.agg #[.int .i64 n, ve], .agg #[vv, vl]].toArray (.int .i64 (partE n E V L))) ∧ (True) ∧ True) hA H ⟨⟨by kernel_rfl, by exact box_row H 6 rfl 0 2⟩, ⟨by kernel_rfl, by exact box_row H 5 rfl 0 2⟩, ⟨callable_of, callOk_of fun w hw => by exact rrightPart_any n ve E vv vl V L w (by omega) (((H.on hw).arg hE)) (((H.on hw).arg hV)) (((H.on hw).arg hL))⟩, trivial, trivial⟩ fun a w66 hA H _ => ?_
            refine hK65 _ _ ?_
            refine go_cond hA (.tmp 106) (!decide (partE n E V L = 0)) (fun hb67 => ?_) (fun hb67 => ?_)
            · have hhb67 := of_decide_eq_false (nT hb67)
              refine go_seq fun K68 hK68 => ?_
              refine q_reg [(108, .int .i64 ((dartsE n E V L x).length : Int))] [(8, .bool (decide (((dartsE n E V L x).length : Int) = 0)))] ((True) ∧ (LenOk v19 ((dartsE n E V L x).length : Int)) ∧ (True) ∧ (True) ∧ True) hA H ⟨trivial, by exact len_ok (H.get 4 rfl), trivial, trivial, trivial⟩ fun a w69 hA H _ => ?_
              refine hK68 _ _ ?_
              refine go_ret_ ?_
              refine ret_one 8 (.bool (decide (((dartsE n E V L x).length : Int) = 0))) hA ?_
              exact ans_b' (by unfold dartsE; rw [if_pos (by omega)]; rfl) H.below
            · have hhb67 := of_decide_eq_true (nF hb67)
              refine go_skip ?_
              refine hK64 _ _ ?_
              refine go_seq fun K70 hK70 => ?_
              have hpt := part_iff.1 (show partE n E V L = 0 by have := hhb67; omega)
              refine region_list ?_
              refine q_list 0 4 [(111, .agg #[.int .i64 n, ve]), (112, .agg #[vv, vl])] [(110, v19), (111, .agg #[.int .i64 n, ve]), (112, .agg #[vv, vl]), (113, .int .i64 x)] ((True) ∧ ((Try.prog.info? 24).isSome = true ∧ RowOk (On w66) b2 (0) (Try.prog.cellsOf 24) #[.int .i64 n, ve]) ∧ ((Try.prog.info? 29).isSome = true ∧ RowOk (On w66) b4 (0) (Try.prog.cellsOf 29) #[vv, vl]) ∧ (True) ∧ True) hA H ⟨trivial, ⟨by kernel_rfl, by exact box_row H 6 rfl 0 2⟩, ⟨by kernel_rfl, by exact box_row H 5 rfl 0 2⟩, trivial, trivial⟩ fun a w71 hA H _ => ?_
              refine list_at 4 ?_; refine q_call 4 114 37 #[.tmp 111, .tmp 112, .tmp 113] #[24, 29, 3] [.agg #[.int .i64 n, ve], .agg #[vv, vl], .int .i64 x] (fun S v w' => Rd S w' v (dartsL E L x)) [(110, v19)] hA H (by exact rdarts_any n ve E vv vl V L x H.at (by omega) ((H.arg hE)) ((H.arg hV)) ((H.arg hL)) hpt.2.2.1 (by omega)) fun v72 a w73 S hR74 H hA hG => ?_
              replace H := H.ro hR74
              refine q_list 5 2 [(115, .bool (decide ((dartsE n E V L x) = (dartsL E L x))))] [(8, .bool (decide ((dartsE n E V L x) = (dartsL E L x))))] ((Callable Try.prog 36 ∧ CallOk Try.prog (On w73) 36 [v19, v72].toArray (.bool (decide ((dartsE n E V L x) = (dartsL E L x))))) ∧ (True) ∧ True) hA H ⟨⟨callable_of, callOk_of fun w hw => by exact requal_any v19 v72 (dartsE n E V L x) (dartsL E L x) w (((H.on hw).get 5 rfl)) (((H.on hw).get 0 rfl))⟩, trivial, trivial⟩ fun a w76 hA H _ => ?_
              refine list_end ?_
              refine hK70 _ _ ?_
              refine go_ret_ ?_
              refine ret_one 8 (.bool (decide ((dartsE n E V L x) = (dartsL E L x)))) hA ?_
              exact ans_b' (by rw [dartsE_ok (by omega)]; simp) H.below
      · have hhb43 := of_decide_eq_false hb43
        refine m_takeE (n := 5) [(66, false)] [4, 6] #[true, true, true, true, true, false, true, false, false, false, false] [] [⟨2, [], .int .i64 x⟩, ⟨3, [], .int .i64 d⟩, ⟨4, [], .pointer (some ⟨b2, 0, none⟩)⟩, ⟨5, [], .pointer (some ⟨b4, 0, none⟩)⟩, ⟨9, [], v19⟩, ⟨10, [], .int .i64 ((endsE n E d).1)⟩, ⟨11, [], .int .i64 ((endsE n E d).2.1)⟩, ⟨12, [], .bool ((endsE n E d).2.2)⟩, ⟨66, [], .bool (decide (n ≤ 60))⟩] ((((decide (n ≤ 60)) = false)) ∧ (((decide (n ≤ 60)) = false)) ∧ True) hA hD ⟨hb43, hb43, trivial⟩ fun a hA => ?_
        refine m_one 5 ?_; refine op_off [(66, false)] [(2, .int .i64 x), (3, .int .i64 d), (4, .pointer (some ⟨b2, 0, none⟩)), (5, .pointer (some ⟨b4, 0, none⟩)), (9, v19), (10, .int .i64 ((endsE n E d).1)), (11, .int .i64 ((endsE n E d).2.1)), (12, .bool ((endsE n E d).2.2)), (66, .bool (decide (n ≤ 60)))] (((decide (n ≤ 60)) = false)) hA hb43 fun a hA => ?_
        refine ⟨fun h => hD, ?_⟩
        refine m_one 7 ?_; refine op_off [(66, false)] [(2, .int .i64 x), (3, .int .i64 d), (4, .pointer (some ⟨b2, 0, none⟩)), (5, .pointer (some ⟨b4, 0, none⟩)), (9, v19), (10, .int .i64 ((endsE n E d).1)), (11, .int .i64 ((endsE n E d).2.1)), (12, .bool ((endsE n E d).2.2)), (66, .bool (decide (n ≤ 60)))] (((decide (n ≤ 60)) = false)) hA hb43 fun a hA => ?_
        refine ⟨fun h => hD, ?_⟩
        refine m_one 8 ?_; refine q_oneE [(66, false)] 8 [] [⟨2, [], .int .i64 x⟩, ⟨3, [], .int .i64 d⟩, ⟨4, [], .pointer (some ⟨b2, 0, none⟩)⟩, ⟨5, [], .pointer (some ⟨b4, 0, none⟩)⟩, ⟨9, [], v19⟩, ⟨10, [], .int .i64 ((endsE n E d).1)⟩, ⟨11, [], .int .i64 ((endsE n E d).2.1)⟩, ⟨12, [], .bool ((endsE n E d).2.2)⟩, ⟨66, [], .bool (decide (n ≤ 60))⟩] ((((decide (n ≤ 60)) = false)) ∧ True) hA H ⟨hb43, trivial⟩ fun a w77 H hA hG => ?_
        replace hD := hD.below hG
        refine ⟨fun _ => hD, ?_⟩
        refine m_takeE (n := 0) [(66, false)] [9, 10] #[true, true, true, true, true, true, true, true, true, true, true] [] [⟨2, [], .int .i64 x⟩, ⟨3, [], .int .i64 d⟩, ⟨4, [], .pointer (some ⟨b2, 0, none⟩)⟩, ⟨5, [], .pointer (some ⟨b4, 0, none⟩)⟩, ⟨9, [], v19⟩, ⟨10, [], .int .i64 ((endsE n E d).1)⟩, ⟨11, [], .int .i64 ((endsE n E d).2.1)⟩, ⟨12, [], .bool ((endsE n E d).2.2)⟩, ⟨73, [], .bool false⟩] ((((decide (n ≤ 60)) = false)) ∧ ((True) ∧ ((decide (n ≤ 60)) = false)) ∧ True) hA hD ⟨hb43, ⟨trivial, hb43⟩, trivial⟩ fun a hA => ?_
        refine m_end ?_
        refine hK41 _ _ ?_
        refine go_cond hA (.tmp 73) false (fun h => by cases h) (fun _ => ?_)
        refine go_skip ?_
        refine hK40 _ _ ?_
        refine go_seq fun K79 hK79 => ?_
        refine go_seq fun K80 hK80 => ?_
        have hz : (endsE n E d).2.2 = true → 0 ≤ d ∧ d / 2 < (E.length : Int) ∧ d ≤ 1000000 := fun h => by have := ends_ok h; omega
        refine q_reg [(81, ve), (82, .int .i64 (E.length : Int)), (90, .agg #[.int .i64 n, ve]), (92, .int .i64 (tailE E d)), (96, .agg #[.int .i64 n, ve]), (98, .int .i64 (tailE E (twinE d)))] [(2, .int .i64 x), (4, .pointer (some ⟨b2, 0, none⟩)), (5, .pointer (some ⟨b4, 0, none⟩)), (9, v19), (102, .bool ((!(((endsE n E d).2.2) == ((decide ((0 : Int) ≤ d)) && (decide (d / 2 < (E.length : Int)))))) || (((endsE n E d).2.2) && ((!decide ((endsE n E d).1 = tailE E d)) || (!decide ((endsE n E d).2.1 = tailE E (twinE d)))))))] ((True) ∧ (True) ∧ (True) ∧ (True) ∧ ((decide ((0 : Int) ≤ d)) = true → True) ∧ ((decide ((0 : Int) ≤ d)) = true → 0 ≤ d ∧ 0 < (2 : Int) ∧ InR .i64 d) ∧ ((decide ((0 : Int) ≤ d)) = true → 0 < Try.prog.cellsOf 22) ∧ ((decide ((0 : Int) ≤ d)) = true → CellOk (On w77) b2 (0 + 1) (ve)) ∧ ((decide ((0 : Int) ≤ d)) = true → LenOk ve (E.length : Int)) ∧ ((decide ((0 : Int) ≤ d)) = true → True) ∧ (True) ∧ (Try.prog.underlying 4 = some .bool) ∧ (True) ∧ ((!(((endsE n E d).2.2) == ((decide ((0 : Int) ≤ d)) && (decide (d / 2 < (E.length : Int)))))) = false → True) ∧ ((!(((endsE n E d).2.2) == ((decide ((0 : Int) ≤ d)) && (decide (d / 2 < (E.length : Int)))))) = false → True) ∧ ((!(((endsE n E d).2.2) == ((decide ((0 : Int) ≤ d)) && (decide (d / 2 < (E.length : Int)))))) = false → ((endsE n E d).2.2) = true → True) ∧ ((!(((endsE n E d).2.2) == ((decide ((0 : Int) ≤ d)) && (decide (d / 2 < (E.length : Int)))))) = false → ((endsE n E d).2.2) = true → (Try.prog.info? 24).isSome = true ∧ RowOk (On w77) b2 (0) (Try.prog.cellsOf 24) #[.int .i64 n, ve]) ∧ ((!(((endsE n E d).2.2) == ((decide ((0 : Int) ≤ d)) && (decide (d / 2 < (E.length : Int)))))) = false → ((endsE n E d).2.2) = true → True) ∧ ((!(((endsE n E d).2.2) == ((decide ((0 : Int) ≤ d)) && (decide (d / 2 < (E.length : Int)))))) = false → ((endsE n E d).2.2) = true → Callable Try.prog 34 ∧ CallOk Try.prog (On w77) 34 [.agg #[.int .i64 n, ve], .int .i64 d].toArray (.int .i64 (tailE E d))) ∧ ((!(((endsE n E d).2.2) == ((decide ((0 : Int) ≤ d)) && (decide (d / 2 < (E.length : Int)))))) = false → ((endsE n E d).2.2) = true → True) ∧ ((!(((endsE n E d).2.2) == ((decide ((0 : Int) ≤ d)) && (decide (d / 2 < (E.length : Int)))))) = false → ((endsE n E d).2.2) = true → True) ∧ ((!(((endsE n E d).2.2) == ((decide ((0 : Int) ≤ d)) && (decide (d / 2 < (E.length : Int)))))) = false → ((endsE n E d).2.2) = true → (!decide ((endsE n E d).1 = tailE E d)) = false → True) ∧ ((!(((endsE n E d).2.2) == ((decide ((0 : Int) ≤ d)) && (decide (d / 2 < (E.length : Int)))))) = false → ((endsE n E d).2.2) = true → (!decide ((endsE n E d).1 = tailE E d)) = false → (Try.prog.info? 24).isSome = true ∧ RowOk (On w77) b2 (0) (Try.prog.cellsOf 24) #[.int .i64 n, ve]) ∧ ((!(((endsE n E d).2.2) == ((decide ((0 : Int) ≤ d)) && (decide (d / 2 < (E.length : Int)))))) = false → ((endsE n E d).2.2) = true → (!decide ((endsE n E d).1 = tailE E d)) = false → True) ∧ ((!(((endsE n E d).2.2) == ((decide ((0 : Int) ≤ d)) && (decide (d / 2 < (E.length : Int)))))) = false → ((endsE n E d).2.2) = true → (!decide ((endsE n E d).1 = tailE E d)) = false → Callable Try.prog 35 ∧ CallOk Try.prog (On w77) 35 [.agg #[.int .i64 n, ve], .int .i64 d].toArray (.int .i64 (tailE E (twinE d)))) ∧ ((!(((endsE n E d).2.2) == ((decide ((0 : Int) ≤ d)) && (decide (d / 2 < (E.length : Int)))))) = false → ((endsE n E d).2.2) = true → (!decide ((endsE n E d).1 = tailE E d)) = false → True) ∧ ((!(((endsE n E d).2.2) == ((decide ((0 : Int) ≤ d)) && (decide (d / 2 < (E.length : Int)))))) = false → ((endsE n E d).2.2) = true → True) ∧ ((!(((endsE n E d).2.2) == ((decide ((0 : Int) ≤ d)) && (decide (d / 2 < (E.length : Int)))))) = false → True) ∧ (True) ∧ True) hA H ⟨trivial, trivial, trivial, trivial, fun _ => trivial, fun hg0 => by replace hg0 := of_decide_eq_true hg0; exact ⟨by omega, by omega, by omega, by omega⟩, fun _ => by decide +kernel, fun _ => by exact box_cell H 2 rfl 1, fun _ => by exact len_ok (H.arg hE), fun _ => trivial, trivial, Try.underlying4, trivial, fun _ => trivial, fun _ => trivial, fun _ _ => trivial, fun _ _ => ⟨by kernel_rfl, by exact box_row H 2 rfl 0 2⟩, fun _ _ => trivial, fun hg0 hg1 => by replace hg0 := hg0; replace hg1 := hg1; exact ⟨callable_of, callOk_of fun w hw => by exact tail_any n ve E d w (by omega) (((H.on hw).arg hE)) (by have := hz (by assumption); omega) (by have := hz (by assumption); omega) (by have := hz (by assumption); omega)⟩, fun _ _ => trivial, fun _ _ => trivial, fun _ _ _ => trivial, fun _ _ _ => ⟨by kernel_rfl, by exact box_row H 2 rfl 0 2⟩, fun _ _ _ => trivial, fun hg0 hg1 hg2 => by replace hg0 := hg0; replace hg1 := hg1; replace hg2 := of_decide_eq_true (nF hg2); exact ⟨callable_of, callOk_of fun w hw => by exact head_any n ve E d w (by omega) (((H.on hw).arg hE)) (by have := hz (by assumption); omega) (by have := hz (by assumption); omega) (by have := hz (by assumption); omega)⟩, fun _ _ _ => trivial, fun _ _ => trivial, fun _ => trivial, trivial, trivial⟩ fun a w81 hA H _ => ?_
        refine hK80 _ _ ?_
        refine go_cond hA (.tmp 102) ((!(((endsE n E d).2.2) == ((decide ((0 : Int) ≤ d)) && (decide (d / 2 < (E.length : Int)))))) || (((endsE n E d).2.2) && ((!decide ((endsE n E d).1 = tailE E d)) || (!decide ((endsE n E d).2.1 = tailE E (twinE d)))))) (fun hb82 => ?_) (fun hb82 => ?_)
        · have hhb82 := (oT hb82).imp (fun h => h) (fun h => (⟨(aT h).1, (oT ((aT h).2)).imp (fun h => of_decide_eq_false (nT h)) (fun h => of_decide_eq_false (nT h))⟩ : _ ∧ _))
          refine go_seq fun K83 hK83 => ?_
          refine q_reg [] [(8, .bool false)] ((True) ∧ True) hA H ⟨trivial, trivial⟩ fun a w84 hA H _ => ?_
          refine hK83 _ _ ?_
          refine go_ret_ ?_
          refine ret_one 8 (.bool false) hA ?_
          exact absurd hhb82 (by first | (rw [wholeE_ok (by omega)]; simp; done) | (rw [wholeE_ok (by omega)]; simp; intro; simp; done) | (simp; exact ⟨rights_ok hgd, fun h => rights_eq h⟩) | simp)
        · have hhb82 := (⟨(oF hb82).1, (aF ((oF hb82).2)).imp (fun h => h) (fun h => (⟨of_decide_eq_true (nF ((oF h).1)), of_decide_eq_true (nF ((oF h).2))⟩ : _ ∧ _))⟩ : _ ∧ _)
          refine go_skip ?_
          refine hK79 _ _ ?_
          refine go_seq fun K85 hK85 => ?_
          refine go_seq fun K86 hK86 => ?_
          refine q_reg [(103, .agg #[.int .i64 n, ve]), (104, .agg #[vv, vl]), (105, .int .i64 (partE n E V L))] [(2, .int .i64 x), (4, .pointer (some ⟨b2, 0, none⟩)), (5, .pointer (some ⟨b4, 0, none⟩)), (9, v19), (106, .bool (!decide (partE n E V L = 0)))] (((Try.prog.info? 24).isSome = true ∧ RowOk (On w81) b2 (0) (Try.prog.cellsOf 24) #[.int .i64 n, ve]) ∧ ((Try.prog.info? 29).isSome = true ∧ RowOk (On w81) b4 (0) (Try.prog.cellsOf 29) #[vv, vl]) ∧ (Callable Try.prog 32 ∧ CallOk Try.prog (On w81) 32 [.agg #[.int .i64 n, ve], .agg #[vv, vl]].toArray (.int .i64 (partE n E V L))) ∧ (True) ∧ True) hA H ⟨⟨by kernel_rfl, by exact box_row H 2 rfl 0 2⟩, ⟨by kernel_rfl, by exact box_row H 1 rfl 0 2⟩, ⟨callable_of, callOk_of fun w hw => by exact rrightPart_any n ve E vv vl V L w (by omega) (((H.on hw).arg hE)) (((H.on hw).arg hV)) (((H.on hw).arg hL))⟩, trivial, trivial⟩ fun a w87 hA H _ => ?_
          refine hK86 _ _ ?_
          refine go_cond hA (.tmp 106) (!decide (partE n E V L = 0)) (fun hb88 => ?_) (fun hb88 => ?_)
          · have hhb88 := of_decide_eq_false (nT hb88)
            refine go_seq fun K89 hK89 => ?_
            refine q_reg [(108, .int .i64 ((dartsE n E V L x).length : Int))] [(8, .bool (decide (((dartsE n E V L x).length : Int) = 0)))] ((True) ∧ (LenOk v19 ((dartsE n E V L x).length : Int)) ∧ (True) ∧ (True) ∧ True) hA H ⟨trivial, by exact len_ok (H.get 0 rfl), trivial, trivial, trivial⟩ fun a w90 hA H _ => ?_
            refine hK89 _ _ ?_
            refine go_ret_ ?_
            refine ret_one 8 (.bool (decide (((dartsE n E V L x).length : Int) = 0))) hA ?_
            exact ans_b' (by unfold dartsE; rw [if_pos (by omega)]; rfl) H.below
          · have hhb88 := of_decide_eq_true (nF hb88)
            refine go_skip ?_
            refine hK85 _ _ ?_
            refine go_seq fun K91 hK91 => ?_
            have hpt := part_iff.1 (show partE n E V L = 0 by have := hhb88; omega)
            refine region_list ?_
            refine q_list 0 4 [(111, .agg #[.int .i64 n, ve]), (112, .agg #[vv, vl])] [(110, v19), (111, .agg #[.int .i64 n, ve]), (112, .agg #[vv, vl]), (113, .int .i64 x)] ((True) ∧ ((Try.prog.info? 24).isSome = true ∧ RowOk (On w87) b2 (0) (Try.prog.cellsOf 24) #[.int .i64 n, ve]) ∧ ((Try.prog.info? 29).isSome = true ∧ RowOk (On w87) b4 (0) (Try.prog.cellsOf 29) #[vv, vl]) ∧ (True) ∧ True) hA H ⟨trivial, ⟨by kernel_rfl, by exact box_row H 2 rfl 0 2⟩, ⟨by kernel_rfl, by exact box_row H 1 rfl 0 2⟩, trivial, trivial⟩ fun a w92 hA H _ => ?_
            refine list_at 4 ?_; refine q_call 4 114 37 #[.tmp 111, .tmp 112, .tmp 113] #[24, 29, 3] [.agg #[.int .i64 n, ve], .agg #[vv, vl], .int .i64 x] (fun S v w' => Rd S w' v (dartsL E L x)) [(110, v19)] hA H (by exact rdarts_any n ve E vv vl V L x H.at (by omega) ((H.arg hE)) ((H.arg hV)) ((H.arg hL)) hpt.2.2.1 (by omega)) fun v93 a w94 S hR95 H hA hG => ?_
            replace H := H.ro hR95
            refine q_list 5 2 [(115, .bool (decide ((dartsE n E V L x) = (dartsL E L x))))] [(8, .bool (decide ((dartsE n E V L x) = (dartsL E L x))))] ((Callable Try.prog 36 ∧ CallOk Try.prog (On w94) 36 [v19, v93].toArray (.bool (decide ((dartsE n E V L x) = (dartsL E L x))))) ∧ (True) ∧ True) hA H ⟨⟨callable_of, callOk_of fun w hw => by exact requal_any v19 v93 (dartsE n E V L x) (dartsL E L x) w (((H.on hw).get 1 rfl)) (((H.on hw).get 0 rfl))⟩, trivial, trivial⟩ fun a w97 hA H _ => ?_
            refine list_end ?_
            refine hK91 _ _ ?_
            refine go_ret_ ?_
            refine ret_one 8 (.bool (decide ((dartsE n E V L x) = (dartsL E L x)))) hA ?_
            exact ans_b' (by rw [dartsE_ok (by omega)]; simp) H.below

end Go.Proofs.Ytahonnlgkmimlaa
