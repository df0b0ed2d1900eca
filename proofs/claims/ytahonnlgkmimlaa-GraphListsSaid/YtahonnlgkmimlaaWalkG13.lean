/-
  Walks, written by program: Lists.
-/
import Derived.Test.YtahonnlgkmimlaaProg
import Derived.Test.YtahonnlgkmimlaaWalkG8
import Derived.Test.YtahonnlgkmimlaaGraphD
set_option linter.unusedSimpArgs false
set_option linter.unusedVariables false
namespace Go.Proofs.Ytahonnlgkmimlaa
open Go.RowKit

set_option maxRecDepth 100000 in
set_option maxHeartbeats 1000000 in
theorem graphLists_any (va ea vb eb : Value) (A B C D : List Int) (x : Int) (w : World) (gA : Rd (· < w.heap.size) w va A) (gB : Rd (· < w.heap.size) w ea B) (gC : Rd (· < w.heap.size) w vb C) (gD : Rd (· < w.heap.size) w eb D) :
  Calls Try.prog 8 [.agg #[va, ea], .agg #[vb, eb], .int .i64 x].toArray w (Ans (.bool true) w) := by
  refine enter Try.f8 175 Try.func8 fun a hA => ?_
  replace hA := env_sub [(0, .agg #[va, ea]), (1, .agg #[vb, eb]), (2, .int .i64 x)] hA
  have H := Fr.start (org w)
  refine go_seq fun K1 hK1 => ?_
  refine region_list ?_
  refine list_at 0 ?_; refine q_box 0 3 29 (.tmp 0) (.agg #[va, ea]) [va, ea] [(1, .agg #[vb, eb]), (2, .int .i64 x)] hA H fun b2 a w3 H hA hG hge_b2 => ?_
  clear hge_b2
  refine list_at 1 ?_; refine q_box 1 4 29 (.tmp 1) (.agg #[vb, eb]) [vb, eb] [(2, .int .i64 x), (3, .pointer (some ⟨b2, 0, none⟩))] hA H fun b4 a w5 H hA hG hge_b4 => ?_
  clear hge_b4
  refine q_list 2 1 [] [(2, .int .i64 x), (3, .pointer (some ⟨b2, 0, none⟩)), (4, .pointer (some ⟨b4, 0, none⟩))] ((True) ∧ True) hA H ⟨trivial, trivial⟩ fun a w6 hA H _ => ?_
  refine list_end ?_
  refine hK1 _ _ ?_
  refine go_seq fun K7 hK7 => ?_
  refine go_seq fun K8 hK8 => ?_
  refine q_reg [(12, .bool true), (15, .agg #[.int .i64 0, (.slice none 0 0)]), (16, .agg #[va, ea]), (17, .int .i64 (smallI 0 [] A B)), (21, .agg #[.int .i64 0, (.slice none 0 0)]), (22, .agg #[vb, eb]), (23, .int .i64 (smallI 0 [] C D))] [(2, .int .i64 x), (3, .pointer (some ⟨b2, 0, none⟩)), (4, .pointer (some ⟨b4, 0, none⟩)), (25, .bool ((decide (smallI 0 [] A B = 0)) || (decide (smallI 0 [] C D = 0))))] ((Callable Try.prog 17 ∧ CallOk Try.prog (On w6) 17 [].toArray (.bool true)) ∧ (True) ∧ (True) ∧ ((false) = false → ∀ w, (Instr.build 24 #[]).run Try.prog w = .ok (.agg #[.int .i64 0, (.slice none 0 0)]) w) ∧ ((false) = false → (Try.prog.info? 29).isSome = true ∧ RowOk (On w6) b2 (0) (Try.prog.cellsOf 29) #[va, ea]) ∧ ((false) = false → Callable Try.prog 18 ∧ CallOk Try.prog (On w6) 18 [.agg #[.int .i64 0, (.slice none 0 0)], .agg #[va, ea]].toArray (.int .i64 (smallI 0 [] A B))) ∧ ((false) = false → True) ∧ (True) ∧ (True) ∧ ((decide (smallI 0 [] A B = 0)) = false → ∀ w, (Instr.build 24 #[]).run Try.prog w = .ok (.agg #[.int .i64 0, (.slice none 0 0)]) w) ∧ ((decide (smallI 0 [] A B = 0)) = false → (Try.prog.info? 29).isSome = true ∧ RowOk (On w6) b4 (0) (Try.prog.cellsOf 29) #[vb, eb]) ∧ ((decide (smallI 0 [] A B = 0)) = false → Callable Try.prog 18 ∧ CallOk Try.prog (On w6) 18 [.agg #[.int .i64 0, (.slice none 0 0)], .agg #[vb, eb]].toArray (.int .i64 (smallI 0 [] C D))) ∧ ((decide (smallI 0 [] A B = 0)) = false → True) ∧ (True) ∧ True) hA H ⟨⟨callable_of, callOk_of fun w hw => by exact awake_any w⟩, trivial, trivial, fun _ => fun w => by kernel_rfl, fun _ => ⟨by kernel_rfl, by exact box_row H 1 rfl 0 2⟩, fun hg0 => by replace hg0 := hg0; exact ⟨callable_of, callOk_of fun w hw => by exact small_any 0 (.slice none 0 0) [] va ea A B w (by omega) (rd_nil) (((H.on hw).arg gA)) (((H.on hw).arg gB))⟩, fun _ => trivial, trivial, trivial, fun _ => fun w => by kernel_rfl, fun _ => ⟨by kernel_rfl, by exact box_row H 0 rfl 0 2⟩, fun hg0 => by replace hg0 := of_decide_eq_false hg0; exact ⟨callable_of, callOk_of fun w hw => by exact small_any 0 (.slice none 0 0) [] vb eb C D w (by omega) (rd_nil) (((H.on hw).arg gC)) (((H.on hw).arg gD))⟩, fun _ => trivial, trivial, trivial⟩ fun a w9 hA H _ => ?_
  refine hK8 _ _ ?_
  refine go_cond hA (.tmp 25) ((decide (smallI 0 [] A B = 0)) || (decide (smallI 0 [] C D = 0))) (fun hb10 => ?_) (fun hb10 => ?_)
  · have hhb10 := (oT hb10).imp (fun h => of_decide_eq_true h) (fun h => of_decide_eq_true h)
    refine go_seq fun K11 hK11 => ?_
    refine q_reg [(26, .bool true)] [(6, .bool true)] ((Callable Try.prog 17 ∧ CallOk Try.prog (On w9) 17 [].toArray (.bool true)) ∧ (True) ∧ True) hA H ⟨⟨callable_of, callOk_of fun w hw => by exact awake_any w⟩, trivial, trivial⟩ fun a w12 hA H _ => ?_
    refine hK11 _ _ ?_
    refine go_ret_ ?_
    refine ret_one 6 (.bool true) hA ?_
    exact ans_b' rfl H.below
  · have hhb10 := (⟨of_decide_eq_false ((oF hb10).1), of_decide_eq_false ((oF hb10).2)⟩ : _ ∧ _)
    refine go_skip ?_
    refine hK7 _ _ ?_
    refine go_seq fun K13 hK13 => ?_
    refine go_seq fun K14 hK14 => ?_
    have hsm1 := small_1 (n := 0) (E := []) (V := A) (L := B) (by have := hhb10; omega)
    have hsm2 := small_1 (n := 0) (E := []) (V := C) (L := D) (by have := hhb10; omega)
    refine q_reg [(28, va), (29, .bool (decide (risesP A 1099511627776))), (33, ea), (34, .bool (decide (risesP B 1099511627776))), (39, vb), (40, .bool (decide (risesP C 1099511627776))), (45, eb), (46, .bool (decide (risesP D 1099511627776)))] [(2, .int .i64 x), (3, .pointer (some ⟨b2, 0, none⟩)), (4, .pointer (some ⟨b4, 0, none⟩)), (48, .bool ((((!(decide (risesP A 1099511627776))) || (!(decide (risesP B 1099511627776)))) || (!(decide (risesP C 1099511627776)))) || (!(decide (risesP D 1099511627776)))))] ((0 < Try.prog.cellsOf 27) ∧ (CellOk (On w9) b2 (0 + 0) (va)) ∧ (Callable Try.prog 25 ∧ CallOk Try.prog (On w9) 25 [va, .int .i64 1099511627776].toArray (.bool (decide (risesP A 1099511627776)))) ∧ (True) ∧ (True) ∧ ((!(decide (risesP A 1099511627776))) = false → 0 < Try.prog.cellsOf 27) ∧ ((!(decide (risesP A 1099511627776))) = false → CellOk (On w9) b2 (0 + 1) (ea)) ∧ ((!(decide (risesP A 1099511627776))) = false → Callable Try.prog 25 ∧ CallOk Try.prog (On w9) 25 [ea, .int .i64 1099511627776].toArray (.bool (decide (risesP B 1099511627776)))) ∧ ((!(decide (risesP A 1099511627776))) = false → True) ∧ (True) ∧ (True) ∧ (((!(decide (risesP A 1099511627776))) || (!(decide (risesP B 1099511627776)))) = false → 0 < Try.prog.cellsOf 27) ∧ (((!(decide (risesP A 1099511627776))) || (!(decide (risesP B 1099511627776)))) = false → CellOk (On w9) b4 (0 + 0) (vb)) ∧ (((!(decide (risesP A 1099511627776))) || (!(decide (risesP B 1099511627776)))) = false → Callable Try.prog 25 ∧ CallOk Try.prog (On w9) 25 [vb, .int .i64 1099511627776].toArray (.bool (decide (risesP C 1099511627776)))) ∧ (((!(decide (risesP A 1099511627776))) || (!(decide (risesP B 1099511627776)))) = false → True) ∧ (True) ∧ (True) ∧ ((((!(decide (risesP A 1099511627776))) || (!(decide (risesP B 1099511627776)))) || (!(decide (risesP C 1099511627776)))) = false → 0 < Try.prog.cellsOf 27) ∧ ((((!(decide (risesP A 1099511627776))) || (!(decide (risesP B 1099511627776)))) || (!(decide (risesP C 1099511627776)))) = false → CellOk (On w9) b4 (0 + 1) (eb)) ∧ ((((!(decide (risesP A 1099511627776))) || (!(decide (risesP B 1099511627776)))) || (!(decide (risesP C 1099511627776)))) = false → Callable Try.prog 25 ∧ CallOk Try.prog (On w9) 25 [eb, .int .i64 1099511627776].toArray (.bool (decide (risesP D 1099511627776)))) ∧ ((((!(decide (risesP A 1099511627776))) || (!(decide (risesP B 1099511627776)))) || (!(decide (risesP C 1099511627776)))) = false → True) ∧ (True) ∧ True) hA H ⟨by decide +kernel, by exact box_cell H 1 rfl 0, ⟨callable_of, callOk_of fun w hw => by exact rises_any va A 1099511627776 w (((H.on hw).arg gA))⟩, trivial, trivial, fun _ => by decide +kernel, fun _ => by exact box_cell H 1 rfl 1, fun _ => ⟨callable_of, callOk_of fun w hw => by exact rises_any ea B 1099511627776 w (((H.on hw).arg gB))⟩, fun _ => trivial, trivial, trivial, fun _ => by decide +kernel, fun _ => by exact box_cell H 0 rfl 0, fun _ => ⟨callable_of, callOk_of fun w hw => by exact rises_any vb C 1099511627776 w (((H.on hw).arg gC))⟩, fun _ => trivial, trivial, trivial, fun _ => by decide +kernel, fun _ => by exact box_cell H 0 rfl 1, fun _ => ⟨callable_of, callOk_of fun w hw => by exact rises_any eb D 1099511627776 w (((H.on hw).arg gD))⟩, fun _ => trivial, trivial, trivial⟩ fun a w15 hA H _ => ?_
    refine hK14 _ _ ?_
    refine go_cond hA (.tmp 48) ((((!(decide (risesP A 1099511627776))) || (!(decide (risesP B 1099511627776)))) || (!(decide (risesP C 1099511627776)))) || (!(decide (risesP D 1099511627776)))) (fun hb16 => ?_) (fun hb16 => ?_)
    · have hhb16 := (oT hb16).imp (fun h => (oT h).imp (fun h => (oT h).imp (fun h => of_decide_eq_false (nT h)) (fun h => of_decide_eq_false (nT h))) (fun h => of_decide_eq_false (nT h))) (fun h => of_decide_eq_false (nT h))
      refine go_seq fun K17 hK17 => ?_
      refine q_reg [] [(6, .bool true)] ((True) ∧ True) hA H ⟨trivial, trivial⟩ fun a w18 hA H _ => ?_
      refine hK17 _ _ ?_
      refine go_ret_ ?_
      refine ret_one 6 (.bool true) hA ?_
      exact ans_b' rfl H.below
    · have hhb16 := (⟨(⟨(⟨of_decide_eq_true (nF ((oF ((oF ((oF hb16).1)).1)).1)), of_decide_eq_true (nF ((oF ((oF ((oF hb16).1)).1)).2))⟩ : _ ∧ _), of_decide_eq_true (nF ((oF ((oF hb16).1)).2))⟩ : _ ∧ _), of_decide_eq_true (nF ((oF hb16).2))⟩ : _ ∧ _)
      refine go_skip ?_
      refine hK13 _ _ ?_
      refine go_seq fun K19 hK19 => ?_
      obtain ⟨⟨⟨hq1, hq2⟩, hq3⟩, hq4⟩ := hhb16
      have hpl := lists_law (x := x) hq1 hq2 hq3 hq4
      have H0 := H
      have hM0 := H0.keeps none (.inl rfl)
      refine region_mix (But w15 none) [0, 1, 2, 3, 4, 5, 6, 7, 8] 10 ?_
      replace H := H.drawn; have hD := But.drew w15 none
      generalize ({ w15 with drawn := w15.drawn + 1 } : World) = w20 at H hD ⊢
      refine m_take (n := 6) [0, 1, 3, 4] #[true, true, false, true, true, false, false, false, false, false] [(49, .agg #[va, ea]), (50, .agg #[vb, eb]), (52, .agg #[va, ea]), (53, .agg #[vb, eb])] [(2, .int .i64 x), (3, .pointer (some ⟨b2, 0, none⟩)), (4, .pointer (some ⟨b4, 0, none⟩)), (49, .agg #[va, ea]), (50, .agg #[vb, eb]), (52, .agg #[va, ea]), (53, .agg #[vb, eb])] (((Try.prog.info? 29).isSome = true ∧ RowOk (But w15 none) b2 (0) (Try.prog.cellsOf 29) #[va, ea]) ∧ ((Try.prog.info? 29).isSome = true ∧ RowOk (But w15 none) b4 (0) (Try.prog.cellsOf 29) #[vb, eb]) ∧ ((Try.prog.info? 29).isSome = true ∧ RowOk (But w15 none) b2 (0) (Try.prog.cellsOf 29) #[va, ea]) ∧ ((Try.prog.info? 29).isSome = true ∧ RowOk (But w15 none) b4 (0) (Try.prog.cellsOf 29) #[vb, eb]) ∧ True) hA hD ⟨⟨by kernel_rfl, by exact box_rowC (box_atC H0 none 1 rfl (fun e => by cases e)) 0 2⟩, ⟨by kernel_rfl, by exact box_rowC (box_atC H0 none 0 rfl (fun e => by cases e)) 0 2⟩, ⟨by kernel_rfl, by exact box_rowC (box_atC H0 none 1 rfl (fun e => by cases e)) 0 2⟩, ⟨by kernel_rfl, by exact box_rowC (box_atC H0 none 0 rfl (fun e => by cases e)) 0 2⟩, trivial⟩ fun a hA => ?_
      refine mix_gen fun M hM => ?_
      have hM86 : ∀ (a : Act) (w99 : World) (S : Stab) (v21a : Value) (v21b : Value) (v30a : Value) (v30b : Value) (b53 : Nat) (hge_b53 : w15.heap.size ≤ b53) (b76 : Nat) (hge_b76 : w15.heap.size ≤ b76), EnvOk 175 a (keepEnv [(2, .int .i64 x), (3, .pointer (some ⟨b2, 0, none⟩)), (4, .pointer (some ⟨b4, 0, none⟩)), (7, .pointer (some ⟨b53, 0, none⟩)), (8, .pointer (some ⟨b76, 0, none⟩)), (54, .agg #[v30a, v30b])]) → Fr (org w) w99 S [.box b76 29 [(.slice none 0 0), (.slice none 0 0)], .box b53 29 [v21a, v21b], .ro v30b (mergeL B D 1), .ro v30a (mergeL A C 1), .ro v21b (mergeL B D 2), .ro v21a (mergeL A C 2), .box b4 29 [vb, eb], .box b2 29 [va, ea]] → But w15 none w99 → M 1 #[true, true, true, true, true, true, true, true, true, false] a w99 := by
        intro a w99 S v21a v21b v30a v30b b53 hge_b53 b76 hge_b76 hA H hD
        refine (hM _ _ _ _).2 ?_
        refine m_one 9 ?_; refine q_store 9 29 (.tmp 8) (.tmp 54) 0 b76 (0) 29 [(.slice none 0 0), (.slice none 0 0)] [v30a, v30b] [v30a, v30b] (.agg #[v30a, v30b]) [(2, .int .i64 x), (3, .pointer (some ⟨b2, 0, none⟩)), (4, .pointer (some ⟨b4, 0, none⟩)), (7, .pointer (some ⟨b53, 0, none⟩)), (8, .pointer (some ⟨b76, 0, none⟩))] hA H rfl rfl (Nat.le_of_ble_eq_true (by kernel_rfl)) rfl (fun v hv => by simp only [List.mem_cons, List.not_mem_nil, or_false] at hv; rcases hv with rfl | rfl; exact (rd_one (H.get 3 rfl)); exact (rd_one (H.get 2 rfl))) fun a w100 H hA hG => ?_
        replace H : Fr _ _ _ [.box b76 29 [v30a, v30b], .box b53 29 [v21a, v21b], .ro v30b (mergeL B D 1), .ro v30a (mergeL A C 1), .ro v21b (mergeL B D 2), .ro v21a (mergeL A C 2), .box b4 29 [vb, eb], .box b2 29 [va, ea]] := H
        refine ⟨fun h => absurd h (by decide), ?_⟩
        refine m_end ?_
        refine hK19 _ _ ?_
        refine go_seq fun K101 hK101 => ?_
        refine go_seq fun K102 hK102 => ?_
        have H0 := H
        have hM0 := H0.keeps none (.inl rfl)
        refine region_mix (But w100 none) [0, 1, 2, 3, 4, 5, 6, 7, 8, 9, 10, 11, 12, 13, 14, 15, 16, 17, 18, 19, 20, 21, 22, 23, 24, 25, 26, 27, 28, 29, 30, 31, 32, 33, 34, 35, 36, 37, 38, 39, 40, 41] 42 ?_
        replace H := H.drawn; have hD := But.drew w100 none
        generalize ({ w100 with drawn := w100.drawn + 1 } : World) = w103 at H hD ⊢
        refine m_take (n := 36) [0, 1, 2, 3, 4, 5] #[true, true, true, true, true, true, false, false, false, false, false, false, false, false, false, false, false, false, false, false, false, false, false, false, false, false, false, false, false, false, false, false, false, false, false, false, false, false, false, false, false, false] [(56, v21a), (58, va), (60, vb)] [(2, .int .i64 x), (3, .pointer (some ⟨b2, 0, none⟩)), (4, .pointer (some ⟨b4, 0, none⟩)), (7, .pointer (some ⟨b53, 0, none⟩)), (8, .pointer (some ⟨b76, 0, none⟩)), (56, v21a), (58, va), (60, vb)] ((0 < Try.prog.cellsOf 27) ∧ (CellOk (But w100 none) b53 (0 + 0) (v21a)) ∧ (0 < Try.prog.cellsOf 27) ∧ (CellOk (But w100 none) b2 (0 + 0) (va)) ∧ (0 < Try.prog.cellsOf 27) ∧ (CellOk (But w100 none) b4 (0 + 0) (vb)) ∧ True) hA hD ⟨by decide +kernel, by exact box_cellC (box_atC H0 none 1 rfl (fun e => by cases e)) 0, by decide +kernel, by exact box_cellC (box_atC H0 none 7 rfl (fun e => by cases e)) 0, by decide +kernel, by exact box_cellC (box_atC H0 none 6 rfl (fun e => by cases e)) 0, trivial⟩ fun a hA => ?_
        refine m_one 6 ?_; refine q_call 6 61 43 #[.tmp 58, .tmp 60] #[27, 27] [va, vb] (fun S v w' => Rd S w' v (andL A C)) [(2, .int .i64 x), (3, .pointer (some ⟨b2, 0, none⟩)), (4, .pointer (some ⟨b4, 0, none⟩)), (7, .pointer (some ⟨b53, 0, none⟩)), (8, .pointer (some ⟨b76, 0, none⟩)), (56, v21a)] hA H (by exact rand_any va vb A C H.at ((H.arg gA)) ((H.arg gC)) (by omega)) fun v104 a w105 S hR106 H hA hG => ?_
        replace H := H.ro hR106
        replace hD := hD.below hG
        refine ⟨fun _ => hD, ?_⟩
        refine m_one 7 ?_; refine q_one 7 [(62, .bool (decide ((mergeL A C 2) = (andL A C))))] [(2, .int .i64 x), (3, .pointer (some ⟨b2, 0, none⟩)), (4, .pointer (some ⟨b4, 0, none⟩)), (7, .pointer (some ⟨b53, 0, none⟩)), (8, .pointer (some ⟨b76, 0, none⟩)), (62, .bool (decide ((mergeL A C 2) = (andL A C))))] ((Callable Try.prog 36 ∧ CallOk Try.prog (On w105) 36 [v21a, v104].toArray (.bool (decide ((mergeL A C 2) = (andL A C))))) ∧ True) hA H ⟨⟨callable_of, callOk_of fun w hw => by exact requal_any v21a v104 (mergeL A C 2) (andL A C) w (((H.on hw).get 6 rfl)) (((H.on hw).get 0 rfl))⟩, trivial⟩ fun a w108 H hA hG => ?_
        replace hD := hD.below hG
        refine ⟨fun _ => hD, ?_⟩
        refine m_take (n := 32) [8, 9] #[true, true, true, true, true, true, true, true, true, true, false, false, false, false, false, false, false, false, false, false, false, false, false, false, false, false, false, false, false, false, false, false, false, false, false, false, false, false, false, false, false, false] [] [(2, .int .i64 x), (3, .pointer (some ⟨b2, 0, none⟩)), (4, .pointer (some ⟨b4, 0, none⟩)), (7, .pointer (some ⟨b53, 0, none⟩)), (8, .pointer (some ⟨b76, 0, none⟩)), (64, .bool (!(decide ((mergeL A C 2) = (andL A C)))))] ((True) ∧ (True) ∧ True) hA hD ⟨trivial, trivial, trivial⟩ fun a hA => ?_
        have hb109 : (!(decide ((mergeL A C 2) = (andL A C)))) = false := (by first | (simp [hpl.1, hpl.2.1]; done) | simp)
        have hhb109 := of_decide_eq_true (nF hb109)
        refine m_takeE (n := 26) [(64, false)] [10, 11, 12, 13, 14, 15] #[true, true, true, true, true, true, true, true, true, true, true, true, true, true, true, true, false, false, false, false, false, false, false, false, false, false, false, false, false, false, false, false, false, false, false, false, false, false, false, false, false, false] [(66, v21b), (68, ea), (70, eb)] [⟨2, [], .int .i64 x⟩, ⟨3, [], .pointer (some ⟨b2, 0, none⟩)⟩, ⟨4, [], .pointer (some ⟨b4, 0, none⟩)⟩, ⟨7, [], .pointer (some ⟨b53, 0, none⟩)⟩, ⟨8, [], .pointer (some ⟨b76, 0, none⟩)⟩, ⟨64, [], .bool (!(decide ((mergeL A C 2) = (andL A C))))⟩, ⟨66, [], v21b⟩, ⟨68, [], ea⟩, ⟨70, [], eb⟩] (((((!(decide ((mergeL A C 2) = (andL A C)))) = false) ∧ True) ∧ (0 < Try.prog.cellsOf 27)) ∧ ((((!(decide ((mergeL A C 2) = (andL A C)))) = false) ∧ True) ∧ (CellOk (But w100 none) b53 (0 + 1) (v21b))) ∧ ((((!(decide ((mergeL A C 2) = (andL A C)))) = false) ∧ True) ∧ (0 < Try.prog.cellsOf 27)) ∧ ((((!(decide ((mergeL A C 2) = (andL A C)))) = false) ∧ True) ∧ (CellOk (But w100 none) b2 (0 + 1) (ea))) ∧ ((((!(decide ((mergeL A C 2) = (andL A C)))) = false) ∧ True) ∧ (0 < Try.prog.cellsOf 27)) ∧ ((((!(decide ((mergeL A C 2) = (andL A C)))) = false) ∧ True) ∧ (CellOk (But w100 none) b4 (0 + 1) (eb))) ∧ True) hA hD ⟨⟨⟨hb109, trivial⟩, by decide +kernel⟩, ⟨⟨hb109, trivial⟩, by exact box_cellC (box_atC H0 none 1 rfl (fun e => by cases e)) 1⟩, ⟨⟨hb109, trivial⟩, by decide +kernel⟩, ⟨⟨hb109, trivial⟩, by exact box_cellC (box_atC H0 none 7 rfl (fun e => by cases e)) 1⟩, ⟨⟨hb109, trivial⟩, by decide +kernel⟩, ⟨⟨hb109, trivial⟩, by exact box_cellC (box_atC H0 none 6 rfl (fun e => by cases e)) 1⟩, trivial⟩ fun a hA => ?_
        refine m_one 16 ?_; refine op_on [(64, false)] (((!(decide ((mergeL A C 2) = (andL A C)))) = false) ∧ True) hA ⟨hb109, trivial⟩ ?_; refine q_call 16 71 43 #[.tmp 68, .tmp 70] #[27, 27] [ea, eb] (fun S v w' => Rd S w' v (andL B D)) [(2, .int .i64 x), (3, .pointer (some ⟨b2, 0, none⟩)), (4, .pointer (some ⟨b4, 0, none⟩)), (7, .pointer (some ⟨b53, 0, none⟩)), (8, .pointer (some ⟨b76, 0, none⟩)), (64, .bool (!(decide ((mergeL A C 2) = (andL A C))))), (66, v21b)] hA H (by exact rand_any ea eb B D H.at ((H.arg gB)) ((H.arg gD)) (by omega)) fun v110 a w111 S hR112 H hA hG => ?_
        replace H := H.ro hR112
        replace hD := hD.below hG
        refine ⟨fun _ => hD, ?_⟩
        refine m_one 17 ?_; refine q_oneE [(64, false)] 17 [(72, .bool (decide ((mergeL B D 2) = (andL B D))))] [⟨2, [], .int .i64 x⟩, ⟨3, [], .pointer (some ⟨b2, 0, none⟩)⟩, ⟨4, [], .pointer (some ⟨b4, 0, none⟩)⟩, ⟨7, [], .pointer (some ⟨b53, 0, none⟩)⟩, ⟨8, [], .pointer (some ⟨b76, 0, none⟩)⟩, ⟨64, [], .bool (!(decide ((mergeL A C 2) = (andL A C))))⟩, ⟨72, [], .bool (decide ((mergeL B D 2) = (andL B D)))⟩] (((((!(decide ((mergeL A C 2) = (andL A C)))) = false) ∧ True) ∧ (Callable Try.prog 36 ∧ CallOk Try.prog (On w111) 36 [v21b, v110].toArray (.bool (decide ((mergeL B D 2) = (andL B D)))))) ∧ True) hA H ⟨⟨⟨hb109, trivial⟩, ⟨callable_of, callOk_of fun w hw => by exact requal_any v21b v110 (mergeL B D 2) (andL B D) w (((H.on hw).get 6 rfl)) (((H.on hw).get 0 rfl))⟩⟩, trivial⟩ fun a w114 H hA hG => ?_
        replace hD := hD.below hG
        refine ⟨fun _ => hD, ?_⟩
        refine m_takeE (n := 21) [(64, false)] [18, 19, 20] #[true, true, true, true, true, true, true, true, true, true, true, true, true, true, true, true, true, true, true, true, true, false, false, false, false, false, false, false, false, false, false, false, false, false, false, false, false, false, false, false, false, false] [] [⟨2, [], .int .i64 x⟩, ⟨3, [], .pointer (some ⟨b2, 0, none⟩)⟩, ⟨4, [], .pointer (some ⟨b4, 0, none⟩)⟩, ⟨7, [], .pointer (some ⟨b53, 0, none⟩)⟩, ⟨8, [], .pointer (some ⟨b76, 0, none⟩)⟩, ⟨75, [], .bool (!(decide ((mergeL B D 2) = (andL B D))))⟩] (((((!(decide ((mergeL A C 2) = (andL A C)))) = false) ∧ True) ∧ (True)) ∧ ((True) ∧ ((!(decide ((mergeL A C 2) = (andL A C)))) = false)) ∧ ((True) ∧ (True)) ∧ True) hA hD ⟨⟨⟨hb109, trivial⟩, trivial⟩, ⟨trivial, hb109⟩, ⟨trivial, trivial⟩, trivial⟩ fun a hA => ?_
        have hb115 : (!(decide ((mergeL B D 2) = (andL B D)))) = false := (by first | (simp [hpl.1, hpl.2.1]; done) | simp)
        have hhb115 := of_decide_eq_true (nF hb115)
        refine m_takeE (n := 15) [(64, false), (75, false)] [21, 22, 23, 24, 25, 26] #[true, true, true, true, true, true, true, true, true, true, true, true, true, true, true, true, true, true, true, true, true, true, true, true, true, true, true, false, false, false, false, false, false, false, false, false, false, false, false, false, false, false] [(77, v30a), (79, va), (81, vb)] [⟨2, [], .int .i64 x⟩, ⟨3, [], .pointer (some ⟨b2, 0, none⟩)⟩, ⟨4, [], .pointer (some ⟨b4, 0, none⟩)⟩, ⟨7, [], .pointer (some ⟨b53, 0, none⟩)⟩, ⟨8, [], .pointer (some ⟨b76, 0, none⟩)⟩, ⟨75, [], .bool (!(decide ((mergeL B D 2) = (andL B D))))⟩, ⟨77, [], v30a⟩, ⟨79, [], va⟩, ⟨81, [], vb⟩] (((((!(decide ((mergeL B D 2) = (andL B D)))) = false) ∧ True) ∧ (0 < Try.prog.cellsOf 27)) ∧ ((((!(decide ((mergeL B D 2) = (andL B D)))) = false) ∧ True) ∧ (CellOk (But w100 none) b76 (0 + 0) (v30a))) ∧ ((((!(decide ((mergeL B D 2) = (andL B D)))) = false) ∧ True) ∧ (0 < Try.prog.cellsOf 27)) ∧ ((((!(decide ((mergeL B D 2) = (andL B D)))) = false) ∧ True) ∧ (CellOk (But w100 none) b2 (0 + 0) (va))) ∧ ((((!(decide ((mergeL B D 2) = (andL B D)))) = false) ∧ True) ∧ (0 < Try.prog.cellsOf 27)) ∧ ((((!(decide ((mergeL B D 2) = (andL B D)))) = false) ∧ True) ∧ (CellOk (But w100 none) b4 (0 + 0) (vb))) ∧ True) hA hD ⟨⟨⟨hb115, trivial⟩, by decide +kernel⟩, ⟨⟨hb115, trivial⟩, by exact box_cellC (box_atC H0 none 0 rfl (fun e => by cases e)) 0⟩, ⟨⟨hb115, trivial⟩, by decide +kernel⟩, ⟨⟨hb115, trivial⟩, by exact box_cellC (box_atC H0 none 7 rfl (fun e => by cases e)) 0⟩, ⟨⟨hb115, trivial⟩, by decide +kernel⟩, ⟨⟨hb115, trivial⟩, by exact box_cellC (box_atC H0 none 6 rfl (fun e => by cases e)) 0⟩, trivial⟩ fun a hA => ?_
        refine m_one 27 ?_; refine op_on [(64, false), (75, false)] (((!(decide ((mergeL B D 2) = (andL B D)))) = false) ∧ True) hA ⟨hb115, trivial⟩ ?_; refine q_call 27 82 44 #[.tmp 79, .tmp 81] #[27, 27] [va, vb] (fun S v w' => Rd S w' v (mergeL A C 1)) [(2, .int .i64 x), (3, .pointer (some ⟨b2, 0, none⟩)), (4, .pointer (some ⟨b4, 0, none⟩)), (7, .pointer (some ⟨b53, 0, none⟩)), (8, .pointer (some ⟨b76, 0, none⟩)), (75, .bool (!(decide ((mergeL B D 2) = (andL B D))))), (77, v30a)] hA H (by exact ror_any va vb A C H.at ((H.arg gA)) ((H.arg gC)) (by omega) (by omega)) fun v116 a w117 S hR118 H hA hG => ?_
        replace H := H.ro hR118
        replace hD := hD.below hG
        refine ⟨fun _ => hD, ?_⟩
        refine m_one 28 ?_; refine q_oneE [(64, false), (75, false)] 28 [(83, .bool (decide ((mergeL A C 1) = (mergeL A C 1))))] [⟨2, [], .int .i64 x⟩, ⟨3, [], .pointer (some ⟨b2, 0, none⟩)⟩, ⟨4, [], .pointer (some ⟨b4, 0, none⟩)⟩, ⟨7, [], .pointer (some ⟨b53, 0, none⟩)⟩, ⟨8, [], .pointer (some ⟨b76, 0, none⟩)⟩, ⟨75, [], .bool (!(decide ((mergeL B D 2) = (andL B D))))⟩, ⟨83, [], .bool (decide ((mergeL A C 1) = (mergeL A C 1)))⟩] (((((!(decide ((mergeL B D 2) = (andL B D)))) = false) ∧ True) ∧ (Callable Try.prog 36 ∧ CallOk Try.prog (On w117) 36 [v30a, v116].toArray (.bool (decide ((mergeL A C 1) = (mergeL A C 1)))))) ∧ True) hA H ⟨⟨⟨hb115, trivial⟩, ⟨callable_of, callOk_of fun w hw => by exact requal_any v30a v116 (mergeL A C 1) (mergeL A C 1) w (((H.on hw).get 6 rfl)) (((H.on hw).get 0 rfl))⟩⟩, trivial⟩ fun a w120 H hA hG => ?_
        replace hD := hD.below hG
        refine ⟨fun _ => hD, ?_⟩
        refine m_takeE (n := 10) [(64, false), (75, false)] [29, 30, 31] #[true, true, true, true, true, true, true, true, true, true, true, true, true, true, true, true, true, true, true, true, true, true, true, true, true, true, true, true, true, true, true, true, false, false, false, false, false, false, false, false, false, false] [] [⟨2, [], .int .i64 x⟩, ⟨3, [], .pointer (some ⟨b2, 0, none⟩)⟩, ⟨4, [], .pointer (some ⟨b4, 0, none⟩)⟩, ⟨7, [], .pointer (some ⟨b53, 0, none⟩)⟩, ⟨8, [], .pointer (some ⟨b76, 0, none⟩)⟩, ⟨86, [], .bool (!(decide ((mergeL A C 1) = (mergeL A C 1))))⟩] (((((!(decide ((mergeL B D 2) = (andL B D)))) = false) ∧ True) ∧ (True)) ∧ ((True) ∧ ((!(decide ((mergeL B D 2) = (andL B D)))) = false)) ∧ ((True) ∧ (True)) ∧ True) hA hD ⟨⟨⟨hb115, trivial⟩, trivial⟩, ⟨trivial, hb115⟩, ⟨trivial, trivial⟩, trivial⟩ fun a hA => ?_
        have hb121 : (!(decide ((mergeL A C 1) = (mergeL A C 1)))) = false := (by first | (simp [hpl.1, hpl.2.1]; done) | simp)
        have hhb121 := of_decide_eq_true (nF hb121)
        refine m_takeE (n := 4) [(64, false), (75, false), (86, false)] [32, 33, 34, 35, 36, 37] #[true, true, true, true, true, true, true, true, true, true, true, true, true, true, true, true, true, true, true, true, true, true, true, true, true, true, true, true, true, true, true, true, true, true, true, true, true, true, false, false, false, false] [(88, v30b), (90, ea), (92, eb)] [⟨2, [], .int .i64 x⟩, ⟨3, [], .pointer (some ⟨b2, 0, none⟩)⟩, ⟨4, [], .pointer (some ⟨b4, 0, none⟩)⟩, ⟨7, [], .pointer (some ⟨b53, 0, none⟩)⟩, ⟨86, [], .bool (!(decide ((mergeL A C 1) = (mergeL A C 1))))⟩, ⟨88, [], v30b⟩, ⟨90, [], ea⟩, ⟨92, [], eb⟩] (((((!(decide ((mergeL A C 1) = (mergeL A C 1)))) = false) ∧ True) ∧ (0 < Try.prog.cellsOf 27)) ∧ ((((!(decide ((mergeL A C 1) = (mergeL A C 1)))) = false) ∧ True) ∧ (CellOk (But w100 none) b76 (0 + 1) (v30b))) ∧ ((((!(decide ((mergeL A C 1) = (mergeL A C 1)))) = false) ∧ True) ∧ (0 < Try.prog.cellsOf 27)) ∧ ((((!(decide ((mergeL A C 1) = (mergeL A C 1)))) = false) ∧ True) ∧ (CellOk (But w100 none) b2 (0 + 1) (ea))) ∧ ((((!(decide ((mergeL A C 1) = (mergeL A C 1)))) = false) ∧ True) ∧ (0 < Try.prog.cellsOf 27)) ∧ ((((!(decide ((mergeL A C 1) = (mergeL A C 1)))) = false) ∧ True) ∧ (CellOk (But w100 none) b4 (0 + 1) (eb))) ∧ True) hA hD ⟨⟨⟨hb121, trivial⟩, by decide +kernel⟩, ⟨⟨hb121, trivial⟩, by exact box_cellC (box_atC H0 none 0 rfl (fun e => by cases e)) 1⟩, ⟨⟨hb121, trivial⟩, by decide +kernel⟩, ⟨⟨hb121, trivial⟩, by exact box_cellC (box_atC H0 none 7 rfl (fun e => by cases e)) 1⟩, ⟨⟨hb121, trivial⟩, by decide +kernel⟩, ⟨⟨hb121, trivial⟩, by exact box_cellC (box_atC H0 none 6 rfl (fun e => by cases e)) 1⟩, trivial⟩ fun a hA => ?_
        refine m_one 38 ?_; refine op_on [(64, false), (75, false), (86, false)] (((!(decide ((mergeL A C 1) = (mergeL A C 1)))) = false) ∧ True) hA ⟨hb121, trivial⟩ ?_; refine q_call 38 93 44 #[.tmp 90, .tmp 92] #[27, 27] [ea, eb] (fun S v w' => Rd S w' v (mergeL B D 1)) [(2, .int .i64 x), (3, .pointer (some ⟨b2, 0, none⟩)), (4, .pointer (some ⟨b4, 0, none⟩)), (7, .pointer (some ⟨b53, 0, none⟩)), (86, .bool (!(decide ((mergeL A C 1) = (mergeL A C 1))))), (88, v30b)] hA H (by exact ror_any ea eb B D H.at ((H.arg gB)) ((H.arg gD)) (by omega) (by omega)) fun v122 a w123 S hR124 H hA hG => ?_
        replace H := H.ro hR124
        replace hD := hD.below hG
        refine ⟨fun _ => hD, ?_⟩
        refine m_one 39 ?_; refine q_oneE [(64, false), (75, false), (86, false)] 39 [(94, .bool (decide ((mergeL B D 1) = (mergeL B D 1))))] [⟨2, [], .int .i64 x⟩, ⟨3, [], .pointer (some ⟨b2, 0, none⟩)⟩, ⟨4, [], .pointer (some ⟨b4, 0, none⟩)⟩, ⟨7, [], .pointer (some ⟨b53, 0, none⟩)⟩, ⟨86, [], .bool (!(decide ((mergeL A C 1) = (mergeL A C 1))))⟩, ⟨94, [], .bool (decide ((mergeL B D 1) = (mergeL B D 1)))⟩] (((((!(decide ((mergeL A C 1) = (mergeL A C 1)))) = false) ∧ True) ∧ (Callable Try.prog 36 ∧ CallOk Try.prog (On w123) 36 [v30b, v122].toArray (.bool (decide ((mergeL B D 1) = (mergeL B D 1)))))) ∧ True) hA H ⟨⟨⟨hb121, trivial⟩, ⟨callable_of, callOk_of fun w hw => by exact requal_any v30b v122 (mergeL B D 1) (mergeL B D 1) w (((H.on hw).get 6 rfl)) (((H.on hw).get 0 rfl))⟩⟩, trivial⟩ fun a w126 H hA hG => ?_
        replace hD := hD.below hG
        refine ⟨fun _ => hD, ?_⟩
        refine m_takeE (n := 0) [(64, false), (75, false), (86, false)] [40, 41] #[true, true, true, true, true, true, true, true, true, true, true, true, true, true, true, true, true, true, true, true, true, true, true, true, true, true, true, true, true, true, true, true, true, true, true, true, true, true, true, true, true, true] [] [⟨2, [], .int .i64 x⟩, ⟨3, [], .pointer (some ⟨b2, 0, none⟩)⟩, ⟨4, [], .pointer (some ⟨b4, 0, none⟩)⟩, ⟨7, [], .pointer (some ⟨b53, 0, none⟩)⟩, ⟨96, [], .bool (!(decide ((mergeL B D 1) = (mergeL B D 1))))⟩] (((((!(decide ((mergeL A C 1) = (mergeL A C 1)))) = false) ∧ True) ∧ (True)) ∧ ((True) ∧ ((!(decide ((mergeL A C 1) = (mergeL A C 1)))) = false)) ∧ True) hA hD ⟨⟨⟨hb121, trivial⟩, trivial⟩, ⟨trivial, hb121⟩, trivial⟩ fun a hA => ?_
        refine m_end ?_
        refine hK102 _ _ ?_
        refine go_cond hA (.tmp 96) (!(decide ((mergeL B D 1) = (mergeL B D 1)))) (fun hb127 => ?_) (fun hb127 => ?_)
        · have hhb127 := of_decide_eq_false (nT hb127)
          refine go_seq fun K128 hK128 => ?_
          refine q_reg [] [(6, .bool false)] ((True) ∧ True) hA H ⟨trivial, trivial⟩ fun a w129 hA H _ => ?_
          refine hK128 _ _ ?_
          refine go_ret_ ?_
          refine ret_one 6 (.bool false) hA ?_
          exact absurd hhb127 (by simp [hpl.1, hpl.2.1])
        · have hhb127 := of_decide_eq_true (nF hb127)
          refine go_skip ?_
          refine hK101 _ _ ?_
          refine go_seq fun K130 hK130 => ?_
          refine q_reg [] [(2, .int .i64 x), (3, .pointer (some ⟨b2, 0, none⟩)), (4, .pointer (some ⟨b4, 0, none⟩)), (7, .pointer (some ⟨b53, 0, none⟩)), (9, (.slice none 0 0))] ((True) ∧ True) hA H ⟨trivial, trivial⟩ fun a w131 hA H _ => ?_
          refine hK130 _ _ ?_
          refine go_seq fun K132 hK132 => ?_
          refine go_seq fun K133 hK133 => ?_
          refine q_reg [] [(2, .int .i64 x), (3, .pointer (some ⟨b2, 0, none⟩)), (4, .pointer (some ⟨b4, 0, none⟩)), (7, .pointer (some ⟨b53, 0, none⟩)), (9, (.slice none 0 0)), (10, .int .i64 0)] ((True) ∧ True) hA H ⟨trivial, trivial⟩ fun a w134 hA H _ => ?_
          refine hK133 _ _ ?_
          refine go_block 0 ?_
          replace H := H.newRow (α := Int) 3
          refine go_loop_ (Int × Value × List Int) (fun x_ a W => (fun (i : Int) (vr : Value) (l : List Int) => EnvOk 175 a (keepEnv [(2, .int .i64 x), (3, .pointer (some ⟨b2, 0, none⟩)), (4, .pointer (some ⟨b4, 0, none⟩)), (7, .pointer (some ⟨b53, 0, none⟩)), (9, vr), (10, .int .i64 i)]) ∧ (∃ S, Fr (org w) W S [.row 3 vr l, .ro v122 (mergeL B D 1), .ro v116 (mergeL A C 1), .ro v110 (andL B D), .ro v104 (andL A C), .box b76 29 [v30a, v30b], .box b53 29 [v21a, v21b], .ro v30b (mergeL B D 1), .ro v30a (mergeL A C 1), .ro v21b (mergeL B D 2), .ro v21a (mergeL A C 2), .box b4 29 [vb, eb], .box b2 29 [va, ea]]) ∧ 0 ≤ i ∧ (l.length : Int) ≤ i ∧ l ++ dropL (B.drop i.toNat) x = dropL B x) x_.1 x_.2.1 x_.2.2) (fun x_ => (fun (i : Int) (vr : Value) (l : List Int) => ((B.length : Int) - i).toNat) x_.1 x_.2.1 x_.2.2) (0, .slice none 0 0, []) ?_ (fun x_ a w136 hI => ?_)
          · (try dsimp only); exact ⟨env_sub _ hA, ⟨_, H⟩, by omega, by simp, by simp⟩
          obtain ⟨i, vr, l⟩ := x_
          obtain ⟨hA, ⟨S, H⟩, h0, h1, hi⟩ := hI
          try dsimp only at h0 h1 hi
          refine go_seq fun K137 hK137 => ?_
          refine go_seq fun K138 hK138 => ?_
          refine q_reg [(99, ea), (100, .int .i64 (B.length : Int))] [(2, .int .i64 x), (3, .pointer (some ⟨b2, 0, none⟩)), (4, .pointer (some ⟨b4, 0, none⟩)), (7, .pointer (some ⟨b53, 0, none⟩)), (9, vr), (10, .int .i64 i), (101, .bool (decide (i < (B.length : Int))))] ((True) ∧ (0 < Try.prog.cellsOf 27) ∧ (CellOk (On w136) b2 (0 + 1) (ea)) ∧ (LenOk ea (B.length : Int)) ∧ (True) ∧ True) hA H ⟨trivial, by decide +kernel, by exact box_cell H 12 rfl 1, by exact len_ok (H.arg gB), trivial, trivial⟩ fun a w139 hA H _ => ?_
          refine hK138 _ _ ?_
          refine go_cond hA (.tmp 101) (decide (i < (B.length : Int))) (fun hb140 => ?_) (fun hb140 => ?_)
          · have hhb140 := of_decide_eq_true hb140
            refine go_skip ?_
            refine hK137 _ _ ?_
            refine go_seq fun K141 hK141 => ?_
            refine go_block 1 ?_
            refine go_seq fun K142 hK142 => ?_
            refine q_reg [(105, ea), (108, .int .i64 (B.getD i.toNat 0))] [(2, .int .i64 x), (3, .pointer (some ⟨b2, 0, none⟩)), (4, .pointer (some ⟨b4, 0, none⟩)), (7, .pointer (some ⟨b53, 0, none⟩)), (9, vr), (10, .int .i64 i), (110, .bool (!decide ((B.getD i.toNat 0) = x)))] ((0 < Try.prog.cellsOf 27) ∧ (CellOk (On w139) b2 (0 + 1) (ea)) ∧ (True) ∧ ((Try.prog.info? 3).isSome = true ∧ IdxOk ea i) ∧ (CellOk (On w139) (hdB ea) (hdO ea + i.toNat * 1) (.int .i64 (B.getD i.toNat 0))) ∧ (True) ∧ (True) ∧ True) hA H ⟨by decide +kernel, by exact box_cell H 12 rfl 1, trivial, ⟨by kernel_rfl, by exact idx_ok (H.arg gB) (by omega) (by omega)⟩, by exact cell_flat (i := i) (H.arg gB) (by omega) (by omega) 0 0, trivial, trivial, trivial⟩ fun a w143 hA H _ => ?_
            refine hK142 _ _ ?_
            refine go_cond hA (.tmp 110) (!decide ((B.getD i.toNat 0) = x)) (fun hb144 => ?_) (fun hb144 => ?_)
            · have hhb144 := of_decide_eq_false (nT hb144)
              refine region_list ?_
              refine q_list 0 6 [(113, ea), (116, .int .i64 (B.getD i.toNat 0))] [(2, .int .i64 x), (3, .pointer (some ⟨b2, 0, none⟩)), (4, .pointer (some ⟨b4, 0, none⟩)), (7, .pointer (some ⟨b53, 0, none⟩)), (10, .int .i64 i), (111, vr), (116, .int .i64 (B.getD i.toNat 0))] ((True) ∧ (0 < Try.prog.cellsOf 27) ∧ (CellOk (On w143) b2 (0 + 1) (ea)) ∧ (True) ∧ ((Try.prog.info? 3).isSome = true ∧ IdxOk ea i) ∧ (CellOk (On w143) (hdB ea) (hdO ea + i.toNat * 1) (.int .i64 (B.getD i.toNat 0))) ∧ True) hA H ⟨trivial, by decide +kernel, by exact box_cell H 12 rfl 1, trivial, ⟨by kernel_rfl, by exact idx_ok (H.arg gB) (by omega) (by omega)⟩, by exact cell_flat (i := i) (H.arg gB) (by omega) (by omega) 0 0, trivial⟩ fun a w145 hA H _ => ?_
              refine list_at 6 ?_; refine q_lit 6 117 27 1 #[(0, .tmp 116)] 3 [(0, .int .i64 (B.getD i.toNat 0))] [.int .i64 (B.getD i.toNat 0)] [(2, .int .i64 x), (3, .pointer (some ⟨b2, 0, none⟩)), (4, .pointer (some ⟨b4, 0, none⟩)), (7, .pointer (some ⟨b53, 0, none⟩)), (10, .int .i64 i), (111, vr)] hA H fun b146 a w147 H hA hG hge_b146 => ?_
              clear hge_b146
              refine list_at 7 ?_; refine q_push 7 118 (.tmp 111) (.tmp 117) 1 0 b146 1 1 vr l [(B.getD i.toNat 0)] [.int .i64 (B.getD i.toNat 0)] [(2, .int .i64 x), (3, .pointer (some ⟨b2, 0, none⟩)), (4, .pointer (some ⟨b4, 0, none⟩)), (7, .pointer (some ⟨b53, 0, none⟩)), (10, .int .i64 i)] hA H Try.E27 rfl rfl (by exact (RowRd.single (α := Int) rfl)) rfl (by simp only [List.length_cons, List.length_nil, List.length_append]; omega) (by decide) fun v148 a w149 H hA hG => ?_
              replace H : Fr _ _ _ [.row 3 v148 (l ++ [(B.getD i.toNat 0)]), .ro v122 (mergeL B D 1), .ro v116 (mergeL A C 1), .ro v110 (andL B D), .ro v104 (andL A C), .box b76 29 [v30a, v30b], .box b53 29 [v21a, v21b], .ro v30b (mergeL B D 1), .ro v30a (mergeL A C 1), .ro v21b (mergeL B D 2), .ro v21a (mergeL A C 2), .box b4 29 [vb, eb], .box b2 29 [va, ea]] := H.drop 0
              refine q_list 8 1 [] [(2, .int .i64 x), (3, .pointer (some ⟨b2, 0, none⟩)), (4, .pointer (some ⟨b4, 0, none⟩)), (7, .pointer (some ⟨b53, 0, none⟩)), (9, v148), (10, .int .i64 i)] ((True) ∧ True) hA H ⟨trivial, trivial⟩ fun a w150 hA H _ => ?_
              refine list_end ?_
              refine hK141 _ _ ?_
              refine q_reg [] [(2, .int .i64 x), (3, .pointer (some ⟨b2, 0, none⟩)), (4, .pointer (some ⟨b4, 0, none⟩)), (7, .pointer (some ⟨b53, 0, none⟩)), (9, v148), (10, .int .i64 (i + 1))] ((True) ∧ (InR .i64 (i + 1)) ∧ (True) ∧ True) hA H ⟨trivial, ⟨by omega, by omega⟩, trivial, trivial⟩ fun a w151 hA H _ => ?_
              refine ⟨(i + 1, v148, l ++ [(B.getD i.toNat 0)]), ⟨env_sub _ hA, ⟨_, H⟩, ?_⟩, ?_⟩
              · (try dsimp only); refine ⟨by omega, by (try simp only [List.length_append, List.length_cons, List.length_nil]); omega, by rw [dropL_round h0 (by omega)] at hi; simp only [hhb144, if_true, if_false, List.nil_append] at hi; (try simp only [List.append_assoc] at hi ⊢); exact hi⟩
              · (try dsimp only); omega
            · have hhb144 := of_decide_eq_true (nF hb144)
              refine go_skip ?_
              refine hK141 _ _ ?_
              refine q_reg [] [(2, .int .i64 x), (3, .pointer (some ⟨b2, 0, none⟩)), (4, .pointer (some ⟨b4, 0, none⟩)), (7, .pointer (some ⟨b53, 0, none⟩)), (9, vr), (10, .int .i64 (i + 1))] ((True) ∧ (InR .i64 (i + 1)) ∧ (True) ∧ True) hA H ⟨trivial, ⟨by omega, by omega⟩, trivial, trivial⟩ fun a w152 hA H _ => ?_
              refine ⟨(i + 1, vr, l), ⟨env_sub _ hA, ⟨_, H⟩, ?_⟩, ?_⟩
              · (try dsimp only); refine ⟨by omega, by (try simp only [List.length_append, List.length_cons, List.length_nil]); omega, by rw [dropL_round h0 (by omega)] at hi; simp only [hhb144, if_true, if_false, List.nil_append] at hi; (try simp only [List.append_assoc] at hi ⊢); exact hi⟩
              · (try dsimp only); omega
          · have hhb140 := of_decide_eq_false hb140
            refine go_exit 0 ?_
            refine hK132 _ _ ?_
            refine go_seq fun K153 hK153 => ?_
            refine region_list ?_
            refine q_list 0 2 [(119, .agg #[va, ea])] [(2, .int .i64 x), (3, .pointer (some ⟨b2, 0, none⟩)), (4, .pointer (some ⟨b4, 0, none⟩)), (7, .pointer (some ⟨b53, 0, none⟩)), (9, vr), (119, .agg #[va, ea]), (120, .int .i64 x)] (((Try.prog.info? 29).isSome = true ∧ RowOk (On w139) b2 (0) (Try.prog.cellsOf 29) #[va, ea]) ∧ (True) ∧ True) hA H ⟨⟨by kernel_rfl, by exact box_row H 12 rfl 0 2⟩, trivial, trivial⟩ fun a w154 hA H _ => ?_
            refine list_at 2 ?_; refine q_call 2 121 38 #[.tmp 119, .tmp 120] #[29, 3] [.agg #[va, ea], .int .i64 x] (fun S v w' => Rd S w' v ((A, dropL B x))) [(2, .int .i64 x), (3, .pointer (some ⟨b2, 0, none⟩)), (4, .pointer (some ⟨b4, 0, none⟩)), (7, .pointer (some ⟨b53, 0, none⟩)), (9, vr)] hA H (by exact drop_any va ea A B x H.at ((H.arg gA)) ((H.arg gB)) (by omega) (by omega)) fun v155 a w156 S hR157 H hA hG => ?_
            obtain ⟨v155a, v155b, rfl, hR157a, hR157b⟩ := two_rd hR157
            replace H := H.ro hR157a; replace H := H.ro hR157b
            replace H : Fr _ _ _ [.ro v155b (dropL B x), .ro v155a A, .row 3 vr l, .ro v122 (mergeL B D 1), .ro v116 (mergeL A C 1), .ro v110 (andL B D), .ro v104 (andL A C), .box b76 29 [v30a, v30b], .box b53 29 [v21a, v21b], .ro v30b (mergeL B D 1), .ro v30a (mergeL A C 1), .ro v21b (mergeL B D 2), .ro v21a (mergeL A C 2), .box b4 29 [vb, eb], .box b2 29 [va, ea]] := H
            refine list_at 3 ?_; refine q_alloc 3 11 29 [(.slice none 0 0), (.slice none 0 0)] [(2, .int .i64 x), (3, .pointer (some ⟨b2, 0, none⟩)), (4, .pointer (some ⟨b4, 0, none⟩)), (7, .pointer (some ⟨b53, 0, none⟩)), (9, vr), (121, .agg #[v155a, v155b])] hA H fun b160 a w161 H hA hG hge_b160 => ?_
            clear hge_b160
            refine list_at 4 ?_; refine q_store 4 29 (.tmp 11) (.tmp 121) 0 b160 (0) 29 [(.slice none 0 0), (.slice none 0 0)] [v155a, v155b] [v155a, v155b] (.agg #[v155a, v155b]) [(2, .int .i64 x), (3, .pointer (some ⟨b2, 0, none⟩)), (4, .pointer (some ⟨b4, 0, none⟩)), (7, .pointer (some ⟨b53, 0, none⟩)), (9, vr), (11, .pointer (some ⟨b160, 0, none⟩))] hA H rfl rfl (Nat.le_of_ble_eq_true (by kernel_rfl)) rfl (fun v hv => by simp only [List.mem_cons, List.not_mem_nil, or_false] at hv; rcases hv with rfl | rfl; exact (rd_one (H.get 2 rfl)); exact (rd_one (H.get 1 rfl))) fun a w162 H hA hG => ?_
            replace H : Fr _ _ _ [.box b160 29 [v155a, v155b], .ro v155b (dropL B x), .ro v155a A, .row 3 vr l, .ro v122 (mergeL B D 1), .ro v116 (mergeL A C 1), .ro v110 (andL B D), .ro v104 (andL A C), .box b76 29 [v30a, v30b], .box b53 29 [v21a, v21b], .ro v30b (mergeL B D 1), .ro v30a (mergeL A C 1), .ro v21b (mergeL B D 2), .ro v21a (mergeL A C 2), .box b4 29 [vb, eb], .box b2 29 [va, ea]] := H
            refine list_end ?_
            refine hK153 _ _ ?_
            refine go_seq fun K163 hK163 => ?_
            refine q_draw [(123, v155b), (125, .bool (decide ((dropL B x) = l))), (128, v155a), (130, va), (131, .bool (decide (A = A))), (135, va), (137, .bool (hasB A x)), (139, va), (141, .bool (decide (x ∈ A))), (145, .agg #[va, ea]), (146, .agg #[vb, eb]), (147, .bool (decide (A = C) && decide (B = D))), (148, .agg #[va, ea]), (149, .agg #[vb, eb]), (150, .bool (decide (A = C) && decide (B = D))), (154, .agg #[va, ea]), (155, .agg #[vb, eb]), (156, .bool (decide (allP A C) && decide (allP B D))), (158, v21a), (159, .int .i64 ((mergeL A C 2).length : Int)), (161, va), (162, .int .i64 (A.length : Int)), (166, v21b), (167, .int .i64 ((mergeL B D 2).length : Int)), (169, ea), (170, .int .i64 (B.length : Int))] [(6, .bool (((((decide ((dropL B x) = l)) && (decide (A = A))) && ((hasB A x) == (decide (x ∈ A)))) && ((decide (A = C) && decide (B = D)) == (decide (A = C) && decide (B = D)))) && ((decide (allP A C) && decide (allP B D)) == ((decide (((mergeL A C 2).length : Int) = (A.length : Int))) && (decide (((mergeL B D 2).length : Int) = (B.length : Int)))))))] ((0 < Try.prog.cellsOf 27) ∧ (CellOk (On w162) b160 (0 + 1) (v155b)) ∧ (True) ∧ (Callable Try.prog 36 ∧ CallOk Try.prog (On w162) 36 [v155b, vr].toArray (.bool (decide ((dropL B x) = l)))) ∧ (True) ∧ ((decide ((dropL B x) = l)) = true → 0 < Try.prog.cellsOf 27) ∧ ((decide ((dropL B x) = l)) = true → CellOk (On w162) b160 (0 + 0) (v155a)) ∧ ((decide ((dropL B x) = l)) = true → 0 < Try.prog.cellsOf 27) ∧ ((decide ((dropL B x) = l)) = true → CellOk (On w162) b2 (0 + 0) (va)) ∧ ((decide ((dropL B x) = l)) = true → Callable Try.prog 36 ∧ CallOk Try.prog (On w162) 36 [v155a, va].toArray (.bool (decide (A = A)))) ∧ (True) ∧ (True) ∧ (((decide ((dropL B x) = l)) && (decide (A = A))) = true → 0 < Try.prog.cellsOf 27) ∧ (((decide ((dropL B x) = l)) && (decide (A = A))) = true → CellOk (On w162) b2 (0 + 0) (va)) ∧ (((decide ((dropL B x) = l)) && (decide (A = A))) = true → True) ∧ (((decide ((dropL B x) = l)) && (decide (A = A))) = true → Callable Try.prog 39 ∧ CallOk Try.prog (On w162) 39 [va, .int .i64 x].toArray (.bool (hasB A x))) ∧ (((decide ((dropL B x) = l)) && (decide (A = A))) = true → 0 < Try.prog.cellsOf 27) ∧ (((decide ((dropL B x) = l)) && (decide (A = A))) = true → CellOk (On w162) b2 (0 + 0) (va)) ∧ (((decide ((dropL B x) = l)) && (decide (A = A))) = true → True) ∧ (((decide ((dropL B x) = l)) && (decide (A = A))) = true → Callable Try.prog 24 ∧ CallOk Try.prog (On w162) 24 [va, .int .i64 x].toArray (.bool (decide (x ∈ A)))) ∧ (((decide ((dropL B x) = l)) && (decide (A = A))) = true → Try.prog.underlying 4 = some .bool) ∧ (True) ∧ (True) ∧ ((((decide ((dropL B x) = l)) && (decide (A = A))) && ((hasB A x) == (decide (x ∈ A)))) = true → (Try.prog.info? 29).isSome = true ∧ RowOk (On w162) b2 (0) (Try.prog.cellsOf 29) #[va, ea]) ∧ ((((decide ((dropL B x) = l)) && (decide (A = A))) && ((hasB A x) == (decide (x ∈ A)))) = true → (Try.prog.info? 29).isSome = true ∧ RowOk (On w162) b4 (0) (Try.prog.cellsOf 29) #[vb, eb]) ∧ ((((decide ((dropL B x) = l)) && (decide (A = A))) && ((hasB A x) == (decide (x ∈ A)))) = true → Callable Try.prog 28 ∧ CallOk Try.prog (On w162) 28 [.agg #[va, ea], .agg #[vb, eb]].toArray (.bool (decide (A = C) && decide (B = D)))) ∧ ((((decide ((dropL B x) = l)) && (decide (A = A))) && ((hasB A x) == (decide (x ∈ A)))) = true → (Try.prog.info? 29).isSome = true ∧ RowOk (On w162) b2 (0) (Try.prog.cellsOf 29) #[va, ea]) ∧ ((((decide ((dropL B x) = l)) && (decide (A = A))) && ((hasB A x) == (decide (x ∈ A)))) = true → (Try.prog.info? 29).isSome = true ∧ RowOk (On w162) b4 (0) (Try.prog.cellsOf 29) #[vb, eb]) ∧ ((((decide ((dropL B x) = l)) && (decide (A = A))) && ((hasB A x) == (decide (x ∈ A)))) = true → Callable Try.prog 29 ∧ CallOk Try.prog (On w162) 29 [.agg #[va, ea], .agg #[vb, eb]].toArray (.bool (decide (A = C) && decide (B = D)))) ∧ ((((decide ((dropL B x) = l)) && (decide (A = A))) && ((hasB A x) == (decide (x ∈ A)))) = true → Try.prog.underlying 4 = some .bool) ∧ (True) ∧ (True) ∧ (((((decide ((dropL B x) = l)) && (decide (A = A))) && ((hasB A x) == (decide (x ∈ A)))) && ((decide (A = C) && decide (B = D)) == (decide (A = C) && decide (B = D)))) = true → (Try.prog.info? 29).isSome = true ∧ RowOk (On w162) b2 (0) (Try.prog.cellsOf 29) #[va, ea]) ∧ (((((decide ((dropL B x) = l)) && (decide (A = A))) && ((hasB A x) == (decide (x ∈ A)))) && ((decide (A = C) && decide (B = D)) == (decide (A = C) && decide (B = D)))) = true → (Try.prog.info? 29).isSome = true ∧ RowOk (On w162) b4 (0) (Try.prog.cellsOf 29) #[vb, eb]) ∧ (((((decide ((dropL B x) = l)) && (decide (A = A))) && ((hasB A x) == (decide (x ∈ A)))) && ((decide (A = C) && decide (B = D)) == (decide (A = C) && decide (B = D)))) = true → Callable Try.prog 41 ∧ CallOk Try.prog (On w162) 41 [.agg #[va, ea], .agg #[vb, eb]].toArray (.bool (decide (allP A C) && decide (allP B D)))) ∧ (((((decide ((dropL B x) = l)) && (decide (A = A))) && ((hasB A x) == (decide (x ∈ A)))) && ((decide (A = C) && decide (B = D)) == (decide (A = C) && decide (B = D)))) = true → 0 < Try.prog.cellsOf 27) ∧ (((((decide ((dropL B x) = l)) && (decide (A = A))) && ((hasB A x) == (decide (x ∈ A)))) && ((decide (A = C) && decide (B = D)) == (decide (A = C) && decide (B = D)))) = true → CellOk (On w162) b53 (0 + 0) (v21a)) ∧ (((((decide ((dropL B x) = l)) && (decide (A = A))) && ((hasB A x) == (decide (x ∈ A)))) && ((decide (A = C) && decide (B = D)) == (decide (A = C) && decide (B = D)))) = true → LenOk v21a ((mergeL A C 2).length : Int)) ∧ (((((decide ((dropL B x) = l)) && (decide (A = A))) && ((hasB A x) == (decide (x ∈ A)))) && ((decide (A = C) && decide (B = D)) == (decide (A = C) && decide (B = D)))) = true → 0 < Try.prog.cellsOf 27) ∧ (((((decide ((dropL B x) = l)) && (decide (A = A))) && ((hasB A x) == (decide (x ∈ A)))) && ((decide (A = C) && decide (B = D)) == (decide (A = C) && decide (B = D)))) = true → CellOk (On w162) b2 (0 + 0) (va)) ∧ (((((decide ((dropL B x) = l)) && (decide (A = A))) && ((hasB A x) == (decide (x ∈ A)))) && ((decide (A = C) && decide (B = D)) == (decide (A = C) && decide (B = D)))) = true → LenOk va (A.length : Int)) ∧ (((((decide ((dropL B x) = l)) && (decide (A = A))) && ((hasB A x) == (decide (x ∈ A)))) && ((decide (A = C) && decide (B = D)) == (decide (A = C) && decide (B = D)))) = true → True) ∧ (((((decide ((dropL B x) = l)) && (decide (A = A))) && ((hasB A x) == (decide (x ∈ A)))) && ((decide (A = C) && decide (B = D)) == (decide (A = C) && decide (B = D)))) = true → True) ∧ (((((decide ((dropL B x) = l)) && (decide (A = A))) && ((hasB A x) == (decide (x ∈ A)))) && ((decide (A = C) && decide (B = D)) == (decide (A = C) && decide (B = D)))) = true → (decide (((mergeL A C 2).length : Int) = (A.length : Int))) = true → 0 < Try.prog.cellsOf 27) ∧ (((((decide ((dropL B x) = l)) && (decide (A = A))) && ((hasB A x) == (decide (x ∈ A)))) && ((decide (A = C) && decide (B = D)) == (decide (A = C) && decide (B = D)))) = true → (decide (((mergeL A C 2).length : Int) = (A.length : Int))) = true → CellOk (On w162) b53 (0 + 1) (v21b)) ∧ (((((decide ((dropL B x) = l)) && (decide (A = A))) && ((hasB A x) == (decide (x ∈ A)))) && ((decide (A = C) && decide (B = D)) == (decide (A = C) && decide (B = D)))) = true → (decide (((mergeL A C 2).length : Int) = (A.length : Int))) = true → LenOk v21b ((mergeL B D 2).length : Int)) ∧ (((((decide ((dropL B x) = l)) && (decide (A = A))) && ((hasB A x) == (decide (x ∈ A)))) && ((decide (A = C) && decide (B = D)) == (decide (A = C) && decide (B = D)))) = true → (decide (((mergeL A C 2).length : Int) = (A.length : Int))) = true → 0 < Try.prog.cellsOf 27) ∧ (((((decide ((dropL B x) = l)) && (decide (A = A))) && ((hasB A x) == (decide (x ∈ A)))) && ((decide (A = C) && decide (B = D)) == (decide (A = C) && decide (B = D)))) = true → (decide (((mergeL A C 2).length : Int) = (A.length : Int))) = true → CellOk (On w162) b2 (0 + 1) (ea)) ∧ (((((decide ((dropL B x) = l)) && (decide (A = A))) && ((hasB A x) == (decide (x ∈ A)))) && ((decide (A = C) && decide (B = D)) == (decide (A = C) && decide (B = D)))) = true → (decide (((mergeL A C 2).length : Int) = (A.length : Int))) = true → LenOk ea (B.length : Int)) ∧ (((((decide ((dropL B x) = l)) && (decide (A = A))) && ((hasB A x) == (decide (x ∈ A)))) && ((decide (A = C) && decide (B = D)) == (decide (A = C) && decide (B = D)))) = true → (decide (((mergeL A C 2).length : Int) = (A.length : Int))) = true → True) ∧ (((((decide ((dropL B x) = l)) && (decide (A = A))) && ((hasB A x) == (decide (x ∈ A)))) && ((decide (A = C) && decide (B = D)) == (decide (A = C) && decide (B = D)))) = true → True) ∧ (((((decide ((dropL B x) = l)) && (decide (A = A))) && ((hasB A x) == (decide (x ∈ A)))) && ((decide (A = C) && decide (B = D)) == (decide (A = C) && decide (B = D)))) = true → Try.prog.underlying 4 = some .bool) ∧ (True) ∧ (True) ∧ True) hA H ⟨by decide +kernel, by exact box_cell H 0 rfl 1, trivial, ⟨callable_of, callOk_of fun w hw => by exact requal_any v155b vr (dropL B x) l w (((H.on hw).get 1 rfl)) (((H.on hw).out 3 rfl))⟩, trivial, fun _ => by decide +kernel, fun _ => by exact box_cell H 0 rfl 0, fun _ => by decide +kernel, fun _ => by exact box_cell H 15 rfl 0, fun _ => ⟨callable_of, callOk_of fun w hw => by exact requal_any v155a va A A w (((H.on hw).get 2 rfl)) (((H.on hw).arg gA))⟩, trivial, trivial, fun _ => by decide +kernel, fun _ => by exact box_cell H 15 rfl 0, fun _ => trivial, fun hg0 => by replace hg0 := (⟨of_decide_eq_true ((aT hg0).1), of_decide_eq_true ((aT hg0).2)⟩ : _ ∧ _); exact ⟨callable_of, callOk_of fun w hw => by exact has_any va A x w (((H.on hw).arg gA)) (by omega)⟩, fun _ => by decide +kernel, fun _ => by exact box_cell H 15 rfl 0, fun _ => trivial, fun _ => ⟨callable_of, callOk_of fun w hw => by exact in_any va A x w (((H.on hw).arg gA))⟩, fun _ => Try.underlying4, trivial, trivial, fun _ => ⟨by kernel_rfl, by exact box_row H 15 rfl 0 2⟩, fun _ => ⟨by kernel_rfl, by exact box_row H 14 rfl 0 2⟩, fun _ => ⟨callable_of, callOk_of fun w hw => by exact same_any va ea vb eb A B C D w (((H.on hw).arg gA)) (((H.on hw).arg gB)) (((H.on hw).arg gC)) (((H.on hw).arg gD))⟩, fun _ => ⟨by kernel_rfl, by exact box_row H 15 rfl 0 2⟩, fun _ => ⟨by kernel_rfl, by exact box_row H 14 rfl 0 2⟩, fun _ => ⟨callable_of, callOk_of fun w hw => by exact rsame_any va ea vb eb A B C D w (((H.on hw).arg gA)) (((H.on hw).arg gB)) (((H.on hw).arg gC)) (((H.on hw).arg gD))⟩, fun _ => Try.underlying4, trivial, trivial, fun _ => ⟨by kernel_rfl, by exact box_row H 15 rfl 0 2⟩, fun _ => ⟨by kernel_rfl, by exact box_row H 14 rfl 0 2⟩, fun hg0 => by replace hg0 := (⟨(⟨(⟨of_decide_eq_true ((aT ((aT ((aT hg0).1)).1)).1), of_decide_eq_true ((aT ((aT ((aT hg0).1)).1)).2)⟩ : _ ∧ _), (aT ((aT hg0).1)).2⟩ : _ ∧ _), (aT hg0).2⟩ : _ ∧ _); exact ⟨callable_of, callOk_of fun w hw => by exact within_any va ea vb eb A B C D w (((H.on hw).arg gA)) (((H.on hw).arg gB)) (((H.on hw).arg gC)) (((H.on hw).arg gD)) (by omega) (by omega)⟩, fun _ => by decide +kernel, fun _ => by exact box_cell H 9 rfl 0, fun _ => by exact len_ok (H.get 13 rfl), fun _ => by decide +kernel, fun _ => by exact box_cell H 15 rfl 0, fun _ => by exact len_ok (H.arg gA), fun _ => trivial, fun _ => trivial, fun _ _ => by decide +kernel, fun _ _ => by exact box_cell H 9 rfl 1, fun _ _ => by exact len_ok (H.get 12 rfl), fun _ _ => by decide +kernel, fun _ _ => by exact box_cell H 15 rfl 1, fun _ _ => by exact len_ok (H.arg gB), fun _ _ => trivial, fun _ => trivial, fun _ => Try.underlying4, trivial, trivial, trivial⟩ fun a w164 hA H _ => ?_
            refine hK163 _ _ ?_
            refine go_ret_ ?_
            refine ret_one 6 (.bool (((((decide ((dropL B x) = l)) && (decide (A = A))) && ((hasB A x) == (decide (x ∈ A)))) && ((decide (A = C) && decide (B = D)) == (decide (A = C) && decide (B = D)))) && ((decide (allP A C) && decide (allP B D)) == ((decide (((mergeL A C 2).length : Int) = (A.length : Int))) && (decide (((mergeL B D 2).length : Int) = (B.length : Int))))))) hA ?_
            refine ans_b' ?_ H.below
            rw [dropL_end (by omega), List.append_nil] at hi; subst hi
            exact lists_end hpl.2.2.1 hpl.2.2.2
      have hM87 : ∀ (a : Act) (w165 : World) (S : Stab) (v21a : Value) (v21b : Value) (v30a : Value) (v30b : Value) (b53 : Nat) (hge_b53 : w15.heap.size ≤ b53) (b76 : Nat) (hge_b76 : w15.heap.size ≤ b76), EnvOk 175 a (keepEnv [(2, .int .i64 x), (3, .pointer (some ⟨b2, 0, none⟩)), (4, .pointer (some ⟨b4, 0, none⟩)), (7, .pointer (some ⟨b53, 0, none⟩)), (8, .pointer (some ⟨b76, 0, none⟩)), (51, .agg #[v21a, v21b]), (54, .agg #[v30a, v30b])]) → Fr (org w) w165 S [.box b76 29 [(.slice none 0 0), (.slice none 0 0)], .box b53 29 [(.slice none 0 0), (.slice none 0 0)], .ro v30b (mergeL B D 1), .ro v30a (mergeL A C 1), .ro v21b (mergeL B D 2), .ro v21a (mergeL A C 2), .box b4 29 [vb, eb], .box b2 29 [va, ea]] → But w15 none w165 → M 2 #[true, true, true, true, true, true, true, true, false, false] a w165 := by
        intro a w165 S v21a v21b v30a v30b b53 hge_b53 b76 hge_b76 hA H hD
        refine (hM _ _ _ _).2 ?_
        refine m_one 8 ?_; refine q_store 8 29 (.tmp 7) (.tmp 51) 1 b53 (0) 29 [(.slice none 0 0), (.slice none 0 0)] [v21a, v21b] [v21a, v21b] (.agg #[v21a, v21b]) [(2, .int .i64 x), (3, .pointer (some ⟨b2, 0, none⟩)), (4, .pointer (some ⟨b4, 0, none⟩)), (7, .pointer (some ⟨b53, 0, none⟩)), (8, .pointer (some ⟨b76, 0, none⟩)), (54, .agg #[v30a, v30b])] hA H rfl rfl (Nat.le_of_ble_eq_true (by kernel_rfl)) rfl (fun v hv => by simp only [List.mem_cons, List.not_mem_nil, or_false] at hv; rcases hv with rfl | rfl; exact (rd_one (H.get 5 rfl)); exact (rd_one (H.get 4 rfl))) fun a w166 H hA hG => ?_
        replace H : Fr _ _ _ [.box b76 29 [(.slice none 0 0), (.slice none 0 0)], .box b53 29 [v21a, v21b], .ro v30b (mergeL B D 1), .ro v30a (mergeL A C 1), .ro v21b (mergeL B D 2), .ro v21a (mergeL A C 2), .box b4 29 [vb, eb], .box b2 29 [va, ea]] := H
        replace hD := hD.grown hG (fun b_ hb_ => .inr (by cases hb_; assumption))
        refine ⟨fun _ => hD, ?_⟩
        exact (hM _ _ _ _).1 (hM86 _ _ _ v21a v21b v30a v30b b53 hge_b53 b76 hge_b76 (env_sub _ hA) H hD)
      have hM88 : ∀ (a : Act) (w167 : World) (S : Stab) (v21a : Value) (v21b : Value) (v30a : Value) (v30b : Value) (b53 : Nat) (hge_b53 : w15.heap.size ≤ b53), EnvOk 175 a (keepEnv [(2, .int .i64 x), (3, .pointer (some ⟨b2, 0, none⟩)), (4, .pointer (some ⟨b4, 0, none⟩)), (7, .pointer (some ⟨b53, 0, none⟩)), (51, .agg #[v21a, v21b]), (54, .agg #[v30a, v30b])]) → Fr (org w) w167 S [.box b53 29 [(.slice none 0 0), (.slice none 0 0)], .ro v30b (mergeL B D 1), .ro v30a (mergeL A C 1), .ro v21b (mergeL B D 2), .ro v21a (mergeL A C 2), .box b4 29 [vb, eb], .box b2 29 [va, ea]] → But w15 none w167 → M 3 #[true, true, true, true, true, true, true, false, false, false] a w167 := by
        intro a w167 S v21a v21b v30a v30b b53 hge_b53 hA H hD
        refine (hM _ _ _ _).2 ?_
        refine m_one 7 ?_; refine q_alloc 7 8 29 [(.slice none 0 0), (.slice none 0 0)] [(2, .int .i64 x), (3, .pointer (some ⟨b2, 0, none⟩)), (4, .pointer (some ⟨b4, 0, none⟩)), (7, .pointer (some ⟨b53, 0, none⟩)), (51, .agg #[v21a, v21b]), (54, .agg #[v30a, v30b])] hA H fun b168 a w169 H hA hG hge_b168 => ?_
        replace hge_b168 := Nat.le_trans hD.1 hge_b168
        replace hD := hD.below hG
        refine ⟨fun _ => hD, ?_⟩
        exact (hM _ _ _ _).1 (hM87 _ _ _ v21a v21b v30a v30b b53 hge_b53 b168 hge_b168 (env_sub _ hA) H hD)
      have hM89 : ∀ (a : Act) (w170 : World) (S : Stab) (v21a : Value) (v21b : Value) (v30a : Value) (v30b : Value) (b55 : Nat) (hge_b55 : w15.heap.size ≤ b55), EnvOk 175 a (keepEnv [(2, .int .i64 x), (3, .pointer (some ⟨b2, 0, none⟩)), (4, .pointer (some ⟨b4, 0, none⟩)), (8, .pointer (some ⟨b55, 0, none⟩)), (51, .agg #[v21a, v21b]), (54, .agg #[v30a, v30b])]) → Fr (org w) w170 S [.box b55 29 [(.slice none 0 0), (.slice none 0 0)], .ro v30b (mergeL B D 1), .ro v30a (mergeL A C 1), .ro v21b (mergeL B D 2), .ro v21a (mergeL A C 2), .box b4 29 [vb, eb], .box b2 29 [va, ea]] → But w15 none w170 → M 3 #[true, true, true, true, true, true, false, true, false, false] a w170 := by
        intro a w170 S v21a v21b v30a v30b b55 hge_b55 hA H hD
        refine (hM _ _ _ _).2 ?_
        refine m_one 6 ?_; refine q_alloc 6 7 29 [(.slice none 0 0), (.slice none 0 0)] [(2, .int .i64 x), (3, .pointer (some ⟨b2, 0, none⟩)), (4, .pointer (some ⟨b4, 0, none⟩)), (8, .pointer (some ⟨b55, 0, none⟩)), (51, .agg #[v21a, v21b]), (54, .agg #[v30a, v30b])] hA H fun b171 a w172 H hA hG hge_b171 => ?_
        replace hge_b171 := Nat.le_trans hD.1 hge_b171
        replace H : Fr _ _ _ [.box b55 29 [(.slice none 0 0), (.slice none 0 0)], .box b171 29 [(.slice none 0 0), (.slice none 0 0)], .ro v30b (mergeL B D 1), .ro v30a (mergeL A C 1), .ro v21b (mergeL B D 2), .ro v21a (mergeL A C 2), .box b4 29 [vb, eb], .box b2 29 [va, ea]] := H.sink 1 1
        replace hD := hD.below hG
        refine ⟨fun _ => hD, ?_⟩
        exact (hM _ _ _ _).1 (hM87 _ _ _ v21a v21b v30a v30b b171 hge_b171 b55 hge_b55 (env_sub _ hA) H hD)
      have hM90 : ∀ (a : Act) (w173 : World) (S : Stab) (v21a : Value) (v21b : Value) (b35 : Nat) (hge_b35 : w15.heap.size ≤ b35) (b62 : Nat) (hge_b62 : w15.heap.size ≤ b62), EnvOk 175 a (keepEnv [(2, .int .i64 x), (3, .pointer (some ⟨b2, 0, none⟩)), (4, .pointer (some ⟨b4, 0, none⟩)), (7, .pointer (some ⟨b35, 0, none⟩)), (8, .pointer (some ⟨b62, 0, none⟩)), (51, .agg #[v21a, v21b]), (52, .agg #[va, ea]), (53, .agg #[vb, eb])]) → Fr (org w) w173 S [.box b62 29 [(.slice none 0 0), (.slice none 0 0)], .box b35 29 [(.slice none 0 0), (.slice none 0 0)], .ro v21b (mergeL B D 2), .ro v21a (mergeL A C 2), .box b4 29 [vb, eb], .box b2 29 [va, ea]] → But w15 none w173 → M 3 #[true, true, true, true, true, false, true, true, false, false] a w173 := by
        intro a w173 S v21a v21b b35 hge_b35 b62 hge_b62 hA H hD
        refine (hM _ _ _ _).2 ?_
        refine m_one 5 ?_; refine q_call 5 54 40 #[.tmp 52, .tmp 53] #[29, 29] [.agg #[va, ea], .agg #[vb, eb]] (fun S v w' => Rd S w' v ((mergeL A C 1, mergeL B D 1))) [(2, .int .i64 x), (3, .pointer (some ⟨b2, 0, none⟩)), (4, .pointer (some ⟨b4, 0, none⟩)), (7, .pointer (some ⟨b35, 0, none⟩)), (8, .pointer (some ⟨b62, 0, none⟩)), (51, .agg #[v21a, v21b])] hA H (by exact or_any va ea vb eb A B C D H.at ((H.arg gA)) ((H.arg gB)) ((H.arg gC)) ((H.arg gD)) (by (try simp only [List.length_cons, List.length_nil]); omega) (by (try simp only [List.length_cons, List.length_nil]); omega)) fun v174 a w175 S hR176 H hA hG => ?_
        obtain ⟨v174a, v174b, rfl, hR176a, hR176b⟩ := two_rd hR176
        replace H := H.ro hR176a; replace H := H.ro hR176b
        replace H : Fr _ _ _ [.ro v174b (mergeL B D 1), .ro v174a (mergeL A C 1), .box b62 29 [(.slice none 0 0), (.slice none 0 0)], .box b35 29 [(.slice none 0 0), (.slice none 0 0)], .ro v21b (mergeL B D 2), .ro v21a (mergeL A C 2), .box b4 29 [vb, eb], .box b2 29 [va, ea]] := H
        replace H : Fr _ _ _ [.box b62 29 [(.slice none 0 0), (.slice none 0 0)], .box b35 29 [(.slice none 0 0), (.slice none 0 0)], .ro v174b (mergeL B D 1), .ro v174a (mergeL A C 1), .ro v21b (mergeL B D 2), .ro v21a (mergeL A C 2), .box b4 29 [vb, eb], .box b2 29 [va, ea]] := H.sink 2 2
        replace hD := hD.below hG
        refine ⟨fun _ => hD, ?_⟩
        exact (hM _ _ _ _).1 (hM87 _ _ _ v21a v21b v174a v174b b35 hge_b35 b62 hge_b62 (env_sub _ hA) H hD)
      have hM91 : ∀ (a : Act) (w179 : World) (S : Stab) (v21a : Value) (v21b : Value) (v30a : Value) (v30b : Value), EnvOk 175 a (keepEnv [(2, .int .i64 x), (3, .pointer (some ⟨b2, 0, none⟩)), (4, .pointer (some ⟨b4, 0, none⟩)), (51, .agg #[v21a, v21b]), (54, .agg #[v30a, v30b])]) → Fr (org w) w179 S [.ro v30b (mergeL B D 1), .ro v30a (mergeL A C 1), .ro v21b (mergeL B D 2), .ro v21a (mergeL A C 2), .box b4 29 [vb, eb], .box b2 29 [va, ea]] → But w15 none w179 → M 4 #[true, true, true, true, true, true, false, false, false, false] a w179 := by
        intro a w179 S v21a v21b v30a v30b hA H hD
        refine (hM _ _ _ _).2 ?_
        refine m_many [6, 7] fun i_ hi_ => ?_
        simp only [List.mem_cons, List.not_mem_nil, or_false] at hi_
        rcases hi_ with rfl | rfl
        · skip
          refine q_alloc 6 7 29 [(.slice none 0 0), (.slice none 0 0)] [(2, .int .i64 x), (3, .pointer (some ⟨b2, 0, none⟩)), (4, .pointer (some ⟨b4, 0, none⟩)), (51, .agg #[v21a, v21b]), (54, .agg #[v30a, v30b])] hA H fun b180 a w181 H hA hG hge_b180 => ?_
          replace hge_b180 := Nat.le_trans hD.1 hge_b180
          replace hD := hD.below hG
          refine ⟨fun _ => hD, ?_⟩
          exact (hM _ _ _ _).1 (hM88 _ _ _ v21a v21b v30a v30b b180 hge_b180 (env_sub _ hA) H hD)
        · skip
          refine q_alloc 7 8 29 [(.slice none 0 0), (.slice none 0 0)] [(2, .int .i64 x), (3, .pointer (some ⟨b2, 0, none⟩)), (4, .pointer (some ⟨b4, 0, none⟩)), (51, .agg #[v21a, v21b]), (54, .agg #[v30a, v30b])] hA H fun b182 a w183 H hA hG hge_b182 => ?_
          replace hge_b182 := Nat.le_trans hD.1 hge_b182
          replace hD := hD.below hG
          refine ⟨fun _ => hD, ?_⟩
          exact (hM _ _ _ _).1 (hM89 _ _ _ v21a v21b v30a v30b b182 hge_b182 (env_sub _ hA) H hD)
      have hM92 : ∀ (a : Act) (w184 : World) (S : Stab) (v21a : Value) (v21b : Value) (b35 : Nat) (hge_b35 : w15.heap.size ≤ b35), EnvOk 175 a (keepEnv [(2, .int .i64 x), (3, .pointer (some ⟨b2, 0, none⟩)), (4, .pointer (some ⟨b4, 0, none⟩)), (7, .pointer (some ⟨b35, 0, none⟩)), (51, .agg #[v21a, v21b]), (52, .agg #[va, ea]), (53, .agg #[vb, eb])]) → Fr (org w) w184 S [.box b35 29 [(.slice none 0 0), (.slice none 0 0)], .ro v21b (mergeL B D 2), .ro v21a (mergeL A C 2), .box b4 29 [vb, eb], .box b2 29 [va, ea]] → But w15 none w184 → M 4 #[true, true, true, true, true, false, true, false, false, false] a w184 := by
        intro a w184 S v21a v21b b35 hge_b35 hA H hD
        refine (hM _ _ _ _).2 ?_
        refine m_many [5, 7] fun i_ hi_ => ?_
        simp only [List.mem_cons, List.not_mem_nil, or_false] at hi_
        rcases hi_ with rfl | rfl
        · skip
          refine q_call 5 54 40 #[.tmp 52, .tmp 53] #[29, 29] [.agg #[va, ea], .agg #[vb, eb]] (fun S v w' => Rd S w' v ((mergeL A C 1, mergeL B D 1))) [(2, .int .i64 x), (3, .pointer (some ⟨b2, 0, none⟩)), (4, .pointer (some ⟨b4, 0, none⟩)), (7, .pointer (some ⟨b35, 0, none⟩)), (51, .agg #[v21a, v21b])] hA H (by exact or_any va ea vb eb A B C D H.at ((H.arg gA)) ((H.arg gB)) ((H.arg gC)) ((H.arg gD)) (by (try simp only [List.length_cons, List.length_nil]); omega) (by (try simp only [List.length_cons, List.length_nil]); omega)) fun v185 a w186 S hR187 H hA hG => ?_
          obtain ⟨v185a, v185b, rfl, hR187a, hR187b⟩ := two_rd hR187
          replace H := H.ro hR187a; replace H := H.ro hR187b
          replace H : Fr _ _ _ [.ro v185b (mergeL B D 1), .ro v185a (mergeL A C 1), .box b35 29 [(.slice none 0 0), (.slice none 0 0)], .ro v21b (mergeL B D 2), .ro v21a (mergeL A C 2), .box b4 29 [vb, eb], .box b2 29 [va, ea]] := H
          replace H : Fr _ _ _ [.box b35 29 [(.slice none 0 0), (.slice none 0 0)], .ro v185b (mergeL B D 1), .ro v185a (mergeL A C 1), .ro v21b (mergeL B D 2), .ro v21a (mergeL A C 2), .box b4 29 [vb, eb], .box b2 29 [va, ea]] := H.sink 2 1
          replace hD := hD.below hG
          refine ⟨fun _ => hD, ?_⟩
          exact (hM _ _ _ _).1 (hM88 _ _ _ v21a v21b v185a v185b b35 hge_b35 (env_sub _ hA) H hD)
        · skip
          refine q_alloc 7 8 29 [(.slice none 0 0), (.slice none 0 0)] [(2, .int .i64 x), (3, .pointer (some ⟨b2, 0, none⟩)), (4, .pointer (some ⟨b4, 0, none⟩)), (7, .pointer (some ⟨b35, 0, none⟩)), (51, .agg #[v21a, v21b]), (52, .agg #[va, ea]), (53, .agg #[vb, eb])] hA H fun b190 a w191 H hA hG hge_b190 => ?_
          replace hge_b190 := Nat.le_trans hD.1 hge_b190
          replace hD := hD.below hG
          refine ⟨fun _ => hD, ?_⟩
          exact (hM _ _ _ _).1 (hM90 _ _ _ v21a v21b b35 hge_b35 b190 hge_b190 (env_sub _ hA) H hD)
      have hM93 : ∀ (a : Act) (w192 : World) (S : Stab) (v21a : Value) (v21b : Value) (b37 : Nat) (hge_b37 : w15.heap.size ≤ b37), EnvOk 175 a (keepEnv [(2, .int .i64 x), (3, .pointer (some ⟨b2, 0, none⟩)), (4, .pointer (some ⟨b4, 0, none⟩)), (8, .pointer (some ⟨b37, 0, none⟩)), (51, .agg #[v21a, v21b]), (52, .agg #[va, ea]), (53, .agg #[vb, eb])]) → Fr (org w) w192 S [.box b37 29 [(.slice none 0 0), (.slice none 0 0)], .ro v21b (mergeL B D 2), .ro v21a (mergeL A C 2), .box b4 29 [vb, eb], .box b2 29 [va, ea]] → But w15 none w192 → M 4 #[true, true, true, true, true, false, false, true, false, false] a w192 := by
        intro a w192 S v21a v21b b37 hge_b37 hA H hD
        refine (hM _ _ _ _).2 ?_
        refine m_many [5, 6] fun i_ hi_ => ?_
        simp only [List.mem_cons, List.not_mem_nil, or_false] at hi_
        rcases hi_ with rfl | rfl
        · skip
          refine q_call 5 54 40 #[.tmp 52, .tmp 53] #[29, 29] [.agg #[va, ea], .agg #[vb, eb]] (fun S v w' => Rd S w' v ((mergeL A C 1, mergeL B D 1))) [(2, .int .i64 x), (3, .pointer (some ⟨b2, 0, none⟩)), (4, .pointer (some ⟨b4, 0, none⟩)), (8, .pointer (some ⟨b37, 0, none⟩)), (51, .agg #[v21a, v21b])] hA H (by exact or_any va ea vb eb A B C D H.at ((H.arg gA)) ((H.arg gB)) ((H.arg gC)) ((H.arg gD)) (by (try simp only [List.length_cons, List.length_nil]); omega) (by (try simp only [List.length_cons, List.length_nil]); omega)) fun v193 a w194 S hR195 H hA hG => ?_
          obtain ⟨v193a, v193b, rfl, hR195a, hR195b⟩ := two_rd hR195
          replace H := H.ro hR195a; replace H := H.ro hR195b
          replace H : Fr _ _ _ [.ro v193b (mergeL B D 1), .ro v193a (mergeL A C 1), .box b37 29 [(.slice none 0 0), (.slice none 0 0)], .ro v21b (mergeL B D 2), .ro v21a (mergeL A C 2), .box b4 29 [vb, eb], .box b2 29 [va, ea]] := H
          replace H : Fr _ _ _ [.box b37 29 [(.slice none 0 0), (.slice none 0 0)], .ro v193b (mergeL B D 1), .ro v193a (mergeL A C 1), .ro v21b (mergeL B D 2), .ro v21a (mergeL A C 2), .box b4 29 [vb, eb], .box b2 29 [va, ea]] := H.sink 2 1
          replace hD := hD.below hG
          refine ⟨fun _ => hD, ?_⟩
          exact (hM _ _ _ _).1 (hM89 _ _ _ v21a v21b v193a v193b b37 hge_b37 (env_sub _ hA) H hD)
        · skip
          refine q_alloc 6 7 29 [(.slice none 0 0), (.slice none 0 0)] [(2, .int .i64 x), (3, .pointer (some ⟨b2, 0, none⟩)), (4, .pointer (some ⟨b4, 0, none⟩)), (8, .pointer (some ⟨b37, 0, none⟩)), (51, .agg #[v21a, v21b]), (52, .agg #[va, ea]), (53, .agg #[vb, eb])] hA H fun b198 a w199 H hA hG hge_b198 => ?_
          replace hge_b198 := Nat.le_trans hD.1 hge_b198
          replace H : Fr _ _ _ [.box b37 29 [(.slice none 0 0), (.slice none 0 0)], .box b198 29 [(.slice none 0 0), (.slice none 0 0)], .ro v21b (mergeL B D 2), .ro v21a (mergeL A C 2), .box b4 29 [vb, eb], .box b2 29 [va, ea]] := H.sink 1 1
          replace hD := hD.below hG
          refine ⟨fun _ => hD, ?_⟩
          exact (hM _ _ _ _).1 (hM90 _ _ _ v21a v21b b198 hge_b198 b37 hge_b37 (env_sub _ hA) H hD)
      have hM94 : ∀ (a : Act) (w200 : World) (S : Stab) (b26 : Nat) (hge_b26 : w15.heap.size ≤ b26) (b44 : Nat) (hge_b44 : w15.heap.size ≤ b44), EnvOk 175 a (keepEnv [(2, .int .i64 x), (3, .pointer (some ⟨b2, 0, none⟩)), (4, .pointer (some ⟨b4, 0, none⟩)), (7, .pointer (some ⟨b26, 0, none⟩)), (8, .pointer (some ⟨b44, 0, none⟩)), (49, .agg #[va, ea]), (50, .agg #[vb, eb]), (52, .agg #[va, ea]), (53, .agg #[vb, eb])]) → Fr (org w) w200 S [.box b44 29 [(.slice none 0 0), (.slice none 0 0)], .box b26 29 [(.slice none 0 0), (.slice none 0 0)], .box b4 29 [vb, eb], .box b2 29 [va, ea]] → But w15 none w200 → M 4 #[true, true, false, true, true, false, true, true, false, false] a w200 := by
        intro a w200 S b26 hge_b26 b44 hge_b44 hA H hD
        refine (hM _ _ _ _).2 ?_
        refine m_one 2 ?_; refine q_call 2 51 42 #[.tmp 49, .tmp 50] #[29, 29] [.agg #[va, ea], .agg #[vb, eb]] (fun S v w' => Rd S w' v ((mergeL A C 2, mergeL B D 2))) [(2, .int .i64 x), (3, .pointer (some ⟨b2, 0, none⟩)), (4, .pointer (some ⟨b4, 0, none⟩)), (7, .pointer (some ⟨b26, 0, none⟩)), (8, .pointer (some ⟨b44, 0, none⟩)), (52, .agg #[va, ea]), (53, .agg #[vb, eb])] hA H (by exact and_any va ea vb eb A B C D H.at ((H.arg gA)) ((H.arg gB)) ((H.arg gC)) ((H.arg gD)) (by (try simp only [List.length_cons, List.length_nil]); omega) (by (try simp only [List.length_cons, List.length_nil]); omega)) fun v201 a w202 S hR203 H hA hG => ?_
        obtain ⟨v201a, v201b, rfl, hR203a, hR203b⟩ := two_rd hR203
        replace H := H.ro hR203a; replace H := H.ro hR203b
        replace H : Fr _ _ _ [.ro v201b (mergeL B D 2), .ro v201a (mergeL A C 2), .box b44 29 [(.slice none 0 0), (.slice none 0 0)], .box b26 29 [(.slice none 0 0), (.slice none 0 0)], .box b4 29 [vb, eb], .box b2 29 [va, ea]] := H
        replace H : Fr _ _ _ [.box b44 29 [(.slice none 0 0), (.slice none 0 0)], .box b26 29 [(.slice none 0 0), (.slice none 0 0)], .ro v201b (mergeL B D 2), .ro v201a (mergeL A C 2), .box b4 29 [vb, eb], .box b2 29 [va, ea]] := H.sink 2 2
        replace hD := hD.below hG
        refine ⟨fun _ => hD, ?_⟩
        exact (hM _ _ _ _).1 (hM90 _ _ _ v201a v201b b26 hge_b26 b44 hge_b44 (env_sub _ hA) H hD)
      have hM95 : ∀ (a : Act) (w206 : World) (S : Stab) (v21a : Value) (v21b : Value), EnvOk 175 a (keepEnv [(2, .int .i64 x), (3, .pointer (some ⟨b2, 0, none⟩)), (4, .pointer (some ⟨b4, 0, none⟩)), (51, .agg #[v21a, v21b]), (52, .agg #[va, ea]), (53, .agg #[vb, eb])]) → Fr (org w) w206 S [.ro v21b (mergeL B D 2), .ro v21a (mergeL A C 2), .box b4 29 [vb, eb], .box b2 29 [va, ea]] → But w15 none w206 → M 5 #[true, true, true, true, true, false, false, false, false, false] a w206 := by
        intro a w206 S v21a v21b hA H hD
        refine (hM _ _ _ _).2 ?_
        refine m_many [5, 6, 7] fun i_ hi_ => ?_
        simp only [List.mem_cons, List.not_mem_nil, or_false] at hi_
        rcases hi_ with rfl | rfl | rfl
        · skip
          refine q_call 5 54 40 #[.tmp 52, .tmp 53] #[29, 29] [.agg #[va, ea], .agg #[vb, eb]] (fun S v w' => Rd S w' v ((mergeL A C 1, mergeL B D 1))) [(2, .int .i64 x), (3, .pointer (some ⟨b2, 0, none⟩)), (4, .pointer (some ⟨b4, 0, none⟩)), (51, .agg #[v21a, v21b])] hA H (by exact or_any va ea vb eb A B C D H.at ((H.arg gA)) ((H.arg gB)) ((H.arg gC)) ((H.arg gD)) (by (try simp only [List.length_cons, List.length_nil]); omega) (by (try simp only [List.length_cons, List.length_nil]); omega)) fun v207 a w208 S hR209 H hA hG => ?_
          obtain ⟨v207a, v207b, rfl, hR209a, hR209b⟩ := two_rd hR209
          replace H := H.ro hR209a; replace H := H.ro hR209b
          replace H : Fr _ _ _ [.ro v207b (mergeL B D 1), .ro v207a (mergeL A C 1), .ro v21b (mergeL B D 2), .ro v21a (mergeL A C 2), .box b4 29 [vb, eb], .box b2 29 [va, ea]] := H
          replace hD := hD.below hG
          refine ⟨fun _ => hD, ?_⟩
          exact (hM _ _ _ _).1 (hM91 _ _ _ v21a v21b v207a v207b (env_sub _ hA) H hD)
        · skip
          refine q_alloc 6 7 29 [(.slice none 0 0), (.slice none 0 0)] [(2, .int .i64 x), (3, .pointer (some ⟨b2, 0, none⟩)), (4, .pointer (some ⟨b4, 0, none⟩)), (51, .agg #[v21a, v21b]), (52, .agg #[va, ea]), (53, .agg #[vb, eb])] hA H fun b212 a w213 H hA hG hge_b212 => ?_
          replace hge_b212 := Nat.le_trans hD.1 hge_b212
          replace hD := hD.below hG
          refine ⟨fun _ => hD, ?_⟩
          exact (hM _ _ _ _).1 (hM92 _ _ _ v21a v21b b212 hge_b212 (env_sub _ hA) H hD)
        · skip
          refine q_alloc 7 8 29 [(.slice none 0 0), (.slice none 0 0)] [(2, .int .i64 x), (3, .pointer (some ⟨b2, 0, none⟩)), (4, .pointer (some ⟨b4, 0, none⟩)), (51, .agg #[v21a, v21b]), (52, .agg #[va, ea]), (53, .agg #[vb, eb])] hA H fun b214 a w215 H hA hG hge_b214 => ?_
          replace hge_b214 := Nat.le_trans hD.1 hge_b214
          replace hD := hD.below hG
          refine ⟨fun _ => hD, ?_⟩
          exact (hM _ _ _ _).1 (hM93 _ _ _ v21a v21b b214 hge_b214 (env_sub _ hA) H hD)
      have hM96 : ∀ (a : Act) (w216 : World) (S : Stab) (b26 : Nat) (hge_b26 : w15.heap.size ≤ b26), EnvOk 175 a (keepEnv [(2, .int .i64 x), (3, .pointer (some ⟨b2, 0, none⟩)), (4, .pointer (some ⟨b4, 0, none⟩)), (7, .pointer (some ⟨b26, 0, none⟩)), (49, .agg #[va, ea]), (50, .agg #[vb, eb]), (52, .agg #[va, ea]), (53, .agg #[vb, eb])]) → Fr (org w) w216 S [.box b26 29 [(.slice none 0 0), (.slice none 0 0)], .box b4 29 [vb, eb], .box b2 29 [va, ea]] → But w15 none w216 → M 5 #[true, true, false, true, true, false, true, false, false, false] a w216 := by
        intro a w216 S b26 hge_b26 hA H hD
        refine (hM _ _ _ _).2 ?_
        refine m_many [2, 7] fun i_ hi_ => ?_
        simp only [List.mem_cons, List.not_mem_nil, or_false] at hi_
        rcases hi_ with rfl | rfl
        · skip
          refine q_call 2 51 42 #[.tmp 49, .tmp 50] #[29, 29] [.agg #[va, ea], .agg #[vb, eb]] (fun S v w' => Rd S w' v ((mergeL A C 2, mergeL B D 2))) [(2, .int .i64 x), (3, .pointer (some ⟨b2, 0, none⟩)), (4, .pointer (some ⟨b4, 0, none⟩)), (7, .pointer (some ⟨b26, 0, none⟩)), (52, .agg #[va, ea]), (53, .agg #[vb, eb])] hA H (by exact and_any va ea vb eb A B C D H.at ((H.arg gA)) ((H.arg gB)) ((H.arg gC)) ((H.arg gD)) (by (try simp only [List.length_cons, List.length_nil]); omega) (by (try simp only [List.length_cons, List.length_nil]); omega)) fun v217 a w218 S hR219 H hA hG => ?_
          obtain ⟨v217a, v217b, rfl, hR219a, hR219b⟩ := two_rd hR219
          replace H := H.ro hR219a; replace H := H.ro hR219b
          replace H : Fr _ _ _ [.ro v217b (mergeL B D 2), .ro v217a (mergeL A C 2), .box b26 29 [(.slice none 0 0), (.slice none 0 0)], .box b4 29 [vb, eb], .box b2 29 [va, ea]] := H
          replace H : Fr _ _ _ [.box b26 29 [(.slice none 0 0), (.slice none 0 0)], .ro v217b (mergeL B D 2), .ro v217a (mergeL A C 2), .box b4 29 [vb, eb], .box b2 29 [va, ea]] := H.sink 2 1
          replace hD := hD.below hG
          refine ⟨fun _ => hD, ?_⟩
          exact (hM _ _ _ _).1 (hM92 _ _ _ v217a v217b b26 hge_b26 (env_sub _ hA) H hD)
        · skip
          refine q_alloc 7 8 29 [(.slice none 0 0), (.slice none 0 0)] [(2, .int .i64 x), (3, .pointer (some ⟨b2, 0, none⟩)), (4, .pointer (some ⟨b4, 0, none⟩)), (7, .pointer (some ⟨b26, 0, none⟩)), (49, .agg #[va, ea]), (50, .agg #[vb, eb]), (52, .agg #[va, ea]), (53, .agg #[vb, eb])] hA H fun b222 a w223 H hA hG hge_b222 => ?_
          replace hge_b222 := Nat.le_trans hD.1 hge_b222
          replace hD := hD.below hG
          refine ⟨fun _ => hD, ?_⟩
          exact (hM _ _ _ _).1 (hM94 _ _ _ b26 hge_b26 b222 hge_b222 (env_sub _ hA) H hD)
      have hM97 : ∀ (a : Act) (w224 : World) (S : Stab) (b28 : Nat) (hge_b28 : w15.heap.size ≤ b28), EnvOk 175 a (keepEnv [(2, .int .i64 x), (3, .pointer (some ⟨b2, 0, none⟩)), (4, .pointer (some ⟨b4, 0, none⟩)), (8, .pointer (some ⟨b28, 0, none⟩)), (49, .agg #[va, ea]), (50, .agg #[vb, eb]), (52, .agg #[va, ea]), (53, .agg #[vb, eb])]) → Fr (org w) w224 S [.box b28 29 [(.slice none 0 0), (.slice none 0 0)], .box b4 29 [vb, eb], .box b2 29 [va, ea]] → But w15 none w224 → M 5 #[true, true, false, true, true, false, false, true, false, false] a w224 := by
        intro a w224 S b28 hge_b28 hA H hD
        refine (hM _ _ _ _).2 ?_
        refine m_many [2, 6] fun i_ hi_ => ?_
        simp only [List.mem_cons, List.not_mem_nil, or_false] at hi_
        rcases hi_ with rfl | rfl
        · skip
          refine q_call 2 51 42 #[.tmp 49, .tmp 50] #[29, 29] [.agg #[va, ea], .agg #[vb, eb]] (fun S v w' => Rd S w' v ((mergeL A C 2, mergeL B D 2))) [(2, .int .i64 x), (3, .pointer (some ⟨b2, 0, none⟩)), (4, .pointer (some ⟨b4, 0, none⟩)), (8, .pointer (some ⟨b28, 0, none⟩)), (52, .agg #[va, ea]), (53, .agg #[vb, eb])] hA H (by exact and_any va ea vb eb A B C D H.at ((H.arg gA)) ((H.arg gB)) ((H.arg gC)) ((H.arg gD)) (by (try simp only [List.length_cons, List.length_nil]); omega) (by (try simp only [List.length_cons, List.length_nil]); omega)) fun v225 a w226 S hR227 H hA hG => ?_
          obtain ⟨v225a, v225b, rfl, hR227a, hR227b⟩ := two_rd hR227
          replace H := H.ro hR227a; replace H := H.ro hR227b
          replace H : Fr _ _ _ [.ro v225b (mergeL B D 2), .ro v225a (mergeL A C 2), .box b28 29 [(.slice none 0 0), (.slice none 0 0)], .box b4 29 [vb, eb], .box b2 29 [va, ea]] := H
          replace H : Fr _ _ _ [.box b28 29 [(.slice none 0 0), (.slice none 0 0)], .ro v225b (mergeL B D 2), .ro v225a (mergeL A C 2), .box b4 29 [vb, eb], .box b2 29 [va, ea]] := H.sink 2 1
          replace hD := hD.below hG
          refine ⟨fun _ => hD, ?_⟩
          exact (hM _ _ _ _).1 (hM93 _ _ _ v225a v225b b28 hge_b28 (env_sub _ hA) H hD)
        · skip
          refine q_alloc 6 7 29 [(.slice none 0 0), (.slice none 0 0)] [(2, .int .i64 x), (3, .pointer (some ⟨b2, 0, none⟩)), (4, .pointer (some ⟨b4, 0, none⟩)), (8, .pointer (some ⟨b28, 0, none⟩)), (49, .agg #[va, ea]), (50, .agg #[vb, eb]), (52, .agg #[va, ea]), (53, .agg #[vb, eb])] hA H fun b230 a w231 H hA hG hge_b230 => ?_
          replace hge_b230 := Nat.le_trans hD.1 hge_b230
          replace H : Fr _ _ _ [.box b28 29 [(.slice none 0 0), (.slice none 0 0)], .box b230 29 [(.slice none 0 0), (.slice none 0 0)], .box b4 29 [vb, eb], .box b2 29 [va, ea]] := H.sink 1 1
          replace hD := hD.below hG
          refine ⟨fun _ => hD, ?_⟩
          exact (hM _ _ _ _).1 (hM94 _ _ _ b230 hge_b230 b28 hge_b28 (env_sub _ hA) H hD)
      have hM98 : ∀ (a : Act) (w232 : World) (S : Stab), EnvOk 175 a (keepEnv [(2, .int .i64 x), (3, .pointer (some ⟨b2, 0, none⟩)), (4, .pointer (some ⟨b4, 0, none⟩)), (49, .agg #[va, ea]), (50, .agg #[vb, eb]), (52, .agg #[va, ea]), (53, .agg #[vb, eb])]) → Fr (org w) w232 S [.box b4 29 [vb, eb], .box b2 29 [va, ea]] → But w15 none w232 → M 6 #[true, true, false, true, true, false, false, false, false, false] a w232 := by
        intro a w232 S  hA H hD
        refine (hM _ _ _ _).2 ?_
        refine m_many [2, 6, 7] fun i_ hi_ => ?_
        simp only [List.mem_cons, List.not_mem_nil, or_false] at hi_
        rcases hi_ with rfl | rfl | rfl
        · skip
          refine q_call 2 51 42 #[.tmp 49, .tmp 50] #[29, 29] [.agg #[va, ea], .agg #[vb, eb]] (fun S v w' => Rd S w' v ((mergeL A C 2, mergeL B D 2))) [(2, .int .i64 x), (3, .pointer (some ⟨b2, 0, none⟩)), (4, .pointer (some ⟨b4, 0, none⟩)), (52, .agg #[va, ea]), (53, .agg #[vb, eb])] hA H (by exact and_any va ea vb eb A B C D H.at ((H.arg gA)) ((H.arg gB)) ((H.arg gC)) ((H.arg gD)) (by (try simp only [List.length_cons, List.length_nil]); omega) (by (try simp only [List.length_cons, List.length_nil]); omega)) fun v233 a w234 S hR235 H hA hG => ?_
          obtain ⟨v233a, v233b, rfl, hR235a, hR235b⟩ := two_rd hR235
          replace H := H.ro hR235a; replace H := H.ro hR235b
          replace H : Fr _ _ _ [.ro v233b (mergeL B D 2), .ro v233a (mergeL A C 2), .box b4 29 [vb, eb], .box b2 29 [va, ea]] := H
          replace hD := hD.below hG
          refine ⟨fun _ => hD, ?_⟩
          exact (hM _ _ _ _).1 (hM95 _ _ _ v233a v233b (env_sub _ hA) H hD)
        · skip
          refine q_alloc 6 7 29 [(.slice none 0 0), (.slice none 0 0)] [(2, .int .i64 x), (3, .pointer (some ⟨b2, 0, none⟩)), (4, .pointer (some ⟨b4, 0, none⟩)), (49, .agg #[va, ea]), (50, .agg #[vb, eb]), (52, .agg #[va, ea]), (53, .agg #[vb, eb])] hA H fun b238 a w239 H hA hG hge_b238 => ?_
          replace hge_b238 := Nat.le_trans hD.1 hge_b238
          replace hD := hD.below hG
          refine ⟨fun _ => hD, ?_⟩
          exact (hM _ _ _ _).1 (hM96 _ _ _ b238 hge_b238 (env_sub _ hA) H hD)
        · skip
          refine q_alloc 7 8 29 [(.slice none 0 0), (.slice none 0 0)] [(2, .int .i64 x), (3, .pointer (some ⟨b2, 0, none⟩)), (4, .pointer (some ⟨b4, 0, none⟩)), (49, .agg #[va, ea]), (50, .agg #[vb, eb]), (52, .agg #[va, ea]), (53, .agg #[vb, eb])] hA H fun b240 a w241 H hA hG hge_b240 => ?_
          replace hge_b240 := Nat.le_trans hD.1 hge_b240
          replace hD := hD.below hG
          refine ⟨fun _ => hD, ?_⟩
          exact (hM _ _ _ _).1 (hM97 _ _ _ b240 hge_b240 (env_sub _ hA) H hD)
      exact hM98 _ _ _ (env_sub _ hA) H hD

end Go.Proofs.Ytahonnlgkmimlaa
