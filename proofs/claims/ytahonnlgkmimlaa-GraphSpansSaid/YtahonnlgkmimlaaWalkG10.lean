/-
  Walks, written by program: Spans.
-/
import Derived.Test.YtahonnlgkmimlaaProg
import Derived.Test.YtahonnlgkmimlaaWalkG8
import Derived.Test.YtahonnlgkmimlaaGraphD
set_option linter.unusedSimpArgs false
set_option linter.unusedVariables false
namespace Go.Proofs.Ytahonnlgkmimlaa
open Go.RowKit

set_option maxRecDepth 100000 in
set_option maxHeartbeats 1000000 in
theorem graphSpans_any (n : Int) (ve : Value) (E : List (Int × Int)) (vl : Value) (L : List Int) (w : World) (hn : -9223372036854775808 ≤ n ∧ n ≤ 9223372036854775807) (hE : Rd (· < w.heap.size) w ve E) (hL : Rd (· < w.heap.size) w vl L) :
  Calls Try.prog 4 [.agg #[.int .i64 n, ve], vl].toArray w (Ans (.bool true) w) := by
  have hlenE := rd_len hE
  refine enter Try.f4 57 Try.func4 fun a hA => ?_
  replace hA := env_sub [(0, .agg #[.int .i64 n, ve]), (1, vl)] hA
  have H := Fr.start (org w)
  refine go_seq fun K1 hK1 => ?_
  refine region_list ?_
  refine list_at 0 ?_; refine q_box 0 2 24 (.tmp 0) (.agg #[.int .i64 n, ve]) [.int .i64 n, ve] [(1, vl)] hA H fun b2 a w3 H hA hG hge_b2 => ?_
  clear hge_b2
  refine q_list 1 1 [] [(1, vl), (2, .pointer (some ⟨b2, 0, none⟩))] ((True) ∧ True) hA H ⟨trivial, trivial⟩ fun a w4 hA H _ => ?_
  refine list_end ?_
  refine hK1 _ _ ?_
  refine go_seq fun K5 hK5 => ?_
  refine go_seq fun K6 hK6 => ?_
  refine q_reg [(7, .bool true), (10, .agg #[.int .i64 n, ve]), (12, .agg #[(.slice none 0 0), vl]), (13, .int .i64 (smallI n E [] L))] [(1, vl), (2, .pointer (some ⟨b2, 0, none⟩)), (15, .bool (decide (smallI n E [] L = 0)))] ((Callable Try.prog 17 ∧ CallOk Try.prog (On w4) 17 [].toArray (.bool true)) ∧ (True) ∧ (True) ∧ ((false) = false → (Try.prog.info? 24).isSome = true ∧ RowOk (On w4) b2 (0) (Try.prog.cellsOf 24) #[.int .i64 n, ve]) ∧ ((false) = false → True) ∧ ((false) = false → ∀ w, (Instr.build 29 #[(1, vl)]).run Try.prog w = .ok (.agg #[(.slice none 0 0), vl]) w) ∧ ((false) = false → Callable Try.prog 18 ∧ CallOk Try.prog (On w4) 18 [.agg #[.int .i64 n, ve], .agg #[(.slice none 0 0), vl]].toArray (.int .i64 (smallI n E [] L))) ∧ ((false) = false → True) ∧ (True) ∧ True) hA H ⟨⟨callable_of, callOk_of fun w hw => by exact awake_any w⟩, trivial, trivial, fun _ => ⟨by kernel_rfl, by exact box_row H 0 rfl 0 2⟩, fun _ => trivial, fun _ => fun w => by obtain ⟨_, _, _, e0⟩ := rd_form (H.arg hL); rw [e0]; kernel_rfl, fun hg0 => by replace hg0 := hg0; exact ⟨callable_of, callOk_of fun w hw => by exact small_any n ve E (.slice none 0 0) vl [] L w (by omega) (((H.on hw).arg hE)) (rd_nil) (((H.on hw).arg hL))⟩, fun _ => trivial, trivial, trivial⟩ fun a w7 hA H _ => ?_
  refine hK6 _ _ ?_
  refine go_cond hA (.tmp 15) (decide (smallI n E [] L = 0)) (fun hb8 => ?_) (fun hb8 => ?_)
  · have hhb8 := of_decide_eq_true hb8
    refine go_seq fun K9 hK9 => ?_
    refine q_reg [(16, .bool true)] [(4, .bool true)] ((Callable Try.prog 17 ∧ CallOk Try.prog (On w7) 17 [].toArray (.bool true)) ∧ (True) ∧ True) hA H ⟨⟨callable_of, callOk_of fun w hw => by exact awake_any w⟩, trivial, trivial⟩ fun a w10 hA H _ => ?_
    refine hK9 _ _ ?_
    refine go_ret_ ?_
    refine ret_one 4 (.bool true) hA ?_
    refine ans_b' ?_ H.below
    rfl
  · have hhb8 := of_decide_eq_false hb8
    refine go_skip ?_
    refine hK5 _ _ ?_
    refine go_seq fun K11 hK11 => ?_
    have hsm := small_1 hhb8
    refine region_list ?_
    refine q_list 0 2 [(18, .agg #[.int .i64 n, ve])] [(1, vl), (2, .pointer (some ⟨b2, 0, none⟩)), (18, .agg #[.int .i64 n, ve]), (19, vl)] (((Try.prog.info? 24).isSome = true ∧ RowOk (On w7) b2 (0) (Try.prog.cellsOf 24) #[.int .i64 n, ve]) ∧ (True) ∧ True) hA H ⟨⟨by kernel_rfl, by exact box_row H 0 rfl 0 2⟩, trivial, trivial⟩ fun a w12 hA H _ => ?_
    refine list_at 2 ?_; refine q_call 2 20 26 #[.tmp 18, .tmp 19] #[24, 27] [.agg #[.int .i64 n, ve], vl] (fun S v w' => ∃ p, v = .tuple #[p, .int .i64 ((spanE n E L).2)] ∧ Rd S w' p ((spanE n E L).1)) [(1, vl), (2, .pointer (some ⟨b2, 0, none⟩))] hA H (by exact span_any n ve E vl L H.at (by omega) ((H.arg hE)) ((H.arg hL))) fun v13 a w14 S hR15 H hA hG => ?_
    obtain ⟨v13p, rfl, hR15p⟩ := hR15
    obtain ⟨v13a, v13b, rfl, hR15a, hR15b⟩ := two_rd hR15p
    replace H := H.ro hR15a; replace H := H.ro hR15b
    replace H : Fr _ _ _ [.ro v13b (((spanE n E L).1).2), .ro v13a (((spanE n E L).1).1), .box b2 24 [.int .i64 n, ve]] := H
    refine q_list 3 3 [] [(1, vl), (2, .pointer (some ⟨b2, 0, none⟩)), (21, .agg #[v13a, v13b]), (22, .int .i64 ((spanE n E L).2))] ((True) ∧ (True) ∧ (True) ∧ True) hA H ⟨trivial, trivial, trivial, trivial⟩ fun a w18 hA H _ => ?_
    refine list_at 6 ?_; refine q_alloc 6 5 29 [(.slice none 0 0), (.slice none 0 0)] [(1, vl), (2, .pointer (some ⟨b2, 0, none⟩)), (21, .agg #[v13a, v13b]), (22, .int .i64 ((spanE n E L).2))] hA H fun b19 a w20 H hA hG hge_b19 => ?_
    clear hge_b19
    refine list_at 7 ?_; refine q_store 7 29 (.tmp 5) (.tmp 21) 0 b19 (0) 29 [(.slice none 0 0), (.slice none 0 0)] [v13a, v13b] [v13a, v13b] (.agg #[v13a, v13b]) [(1, vl), (2, .pointer (some ⟨b2, 0, none⟩)), (5, .pointer (some ⟨b19, 0, none⟩)), (22, .int .i64 ((spanE n E L).2))] hA H rfl rfl (Nat.le_of_ble_eq_true (by kernel_rfl)) rfl (fun v hv => by simp only [List.mem_cons, List.not_mem_nil, or_false] at hv; rcases hv with rfl | rfl; exact (rd_one (H.get 2 rfl)); exact (rd_one (H.get 1 rfl))) fun a w21 H hA hG => ?_
    replace H : Fr _ _ _ [.box b19 29 [v13a, v13b], .ro v13b (((spanE n E L).1).2), .ro v13a (((spanE n E L).1).1), .box b2 24 [.int .i64 n, ve]] := H
    refine q_list 8 1 [] [(1, vl), (2, .pointer (some ⟨b2, 0, none⟩)), (5, .pointer (some ⟨b19, 0, none⟩)), (6, .int .i64 ((spanE n E L).2))] ((True) ∧ True) hA H ⟨trivial, trivial⟩ fun a w22 hA H _ => ?_
    refine list_end ?_
    refine hK11 _ _ ?_
    refine go_seq fun K23 hK23 => ?_
    refine go_seq fun K24 hK24 => ?_
    refine q_reg [(23, .agg #[.int .i64 n, ve]), (24, .int .i64 (rightE n E))] [(1, vl), (2, .pointer (some ⟨b2, 0, none⟩)), (5, .pointer (some ⟨b19, 0, none⟩)), (6, .int .i64 ((spanE n E L).2)), (25, .bool (!decide (rightE n E = 0)))] (((Try.prog.info? 24).isSome = true ∧ RowOk (On w22) b2 (0) (Try.prog.cellsOf 24) #[.int .i64 n, ve]) ∧ (Callable Try.prog 27 ∧ CallOk Try.prog (On w22) 27 [.agg #[.int .i64 n, ve]].toArray (.int .i64 (rightE n E))) ∧ (True) ∧ True) hA H ⟨⟨by kernel_rfl, by exact box_row H 3 rfl 0 2⟩, ⟨callable_of, callOk_of fun w hw => by exact rright_any n ve E w (by omega) (((H.on hw).arg hE))⟩, trivial, trivial⟩ fun a w25 hA H _ => ?_
    refine hK24 _ _ ?_
    refine go_cond hA (.tmp 25) (!decide (rightE n E = 0)) (fun hb26 => ?_) (fun hb26 => ?_)
    · have hhb26 := of_decide_eq_false (nT hb26)
      refine go_seq fun K27 hK27 => ?_
      refine q_reg [(27, .agg #[.int .i64 n, ve]), (28, .int .i64 (rightE n E)), (31, .agg #[v13a, v13b]), (32, .agg #[(.slice none 0 0), (.slice none 0 0)]), (33, .bool (decide ((((spanE n E L).1).1) = []) && decide ((((spanE n E L).1).2) = [])))] [(4, .bool ((decide ((spanE n E L).2 = rightE n E)) && (decide ((((spanE n E L).1).1) = []) && decide ((((spanE n E L).1).2) = []))))] ((True) ∧ ((Try.prog.info? 24).isSome = true ∧ RowOk (On w25) b2 (0) (Try.prog.cellsOf 24) #[.int .i64 n, ve]) ∧ (Callable Try.prog 27 ∧ CallOk Try.prog (On w25) 27 [.agg #[.int .i64 n, ve]].toArray (.int .i64 (rightE n E))) ∧ (True) ∧ (True) ∧ ((decide ((spanE n E L).2 = rightE n E)) = true → (Try.prog.info? 29).isSome = true ∧ RowOk (On w25) b19 (0) (Try.prog.cellsOf 29) #[v13a, v13b]) ∧ ((decide ((spanE n E L).2 = rightE n E)) = true → ∀ w, (Instr.build 29 #[]).run Try.prog w = .ok (.agg #[(.slice none 0 0), (.slice none 0 0)]) w) ∧ ((decide ((spanE n E L).2 = rightE n E)) = true → Callable Try.prog 28 ∧ CallOk Try.prog (On w25) 28 [.agg #[v13a, v13b], .agg #[(.slice none 0 0), (.slice none 0 0)]].toArray (.bool (decide ((((spanE n E L).1).1) = []) && decide ((((spanE n E L).1).2) = [])))) ∧ (True) ∧ (True) ∧ True) hA H ⟨trivial, ⟨by kernel_rfl, by exact box_row H 3 rfl 0 2⟩, ⟨callable_of, callOk_of fun w hw => by exact rright_any n ve E w (by omega) (((H.on hw).arg hE))⟩, trivial, trivial, fun _ => ⟨by kernel_rfl, by exact box_row H 0 rfl 0 2⟩, fun _ => fun w => by kernel_rfl, fun _ => ⟨callable_of, callOk_of fun w hw => by exact same_any v13a v13b (.slice none 0 0) (.slice none 0 0) (((spanE n E L).1).1) (((spanE n E L).1).2) [] [] w (((H.on hw).get 2 rfl)) (((H.on hw).get 1 rfl)) (rd_nil) (rd_nil)⟩, trivial, trivial, trivial⟩ fun a w28 hA H _ => ?_
      refine hK27 _ _ ?_
      refine go_ret_ ?_
      refine ret_one 4 (.bool ((decide ((spanE n E L).2 = rightE n E)) && (decide ((((spanE n E L).1).1) = []) && decide ((((spanE n E L).1).2) = [])))) hA ?_
      refine ans_b' ?_ H.below
      have e1 : spanE n E L = (([], []), rightE n E) := (by unfold spanE; rw [if_pos (by omega)]); rw [e1]; simp
    · have hhb26 := of_decide_eq_true (nF hb26)
      refine go_skip ?_
      refine hK23 _ _ ?_
      refine go_seq fun K29 hK29 => ?_
      refine go_seq fun K30 hK30 => ?_
      have hr0 := rightE_0 (n := n) (E := E) (by omega)
      refine q_reg [(37, ve), (38, .int .i64 (E.length : Int)), (39, .bool (decide (risesP L (E.length : Int))))] [(1, vl), (2, .pointer (some ⟨b2, 0, none⟩)), (5, .pointer (some ⟨b19, 0, none⟩)), (6, .int .i64 ((spanE n E L).2)), (40, .bool (!(decide (risesP L (E.length : Int)))))] ((True) ∧ (0 < Try.prog.cellsOf 22) ∧ (CellOk (On w25) b2 (0 + 1) (ve)) ∧ (LenOk ve (E.length : Int)) ∧ (Callable Try.prog 25 ∧ CallOk Try.prog (On w25) 25 [vl, .int .i64 (E.length : Int)].toArray (.bool (decide (risesP L (E.length : Int))))) ∧ (True) ∧ True) hA H ⟨trivial, by decide +kernel, by exact box_cell H 3 rfl 1, by exact len_ok (H.arg hE), ⟨callable_of, callOk_of fun w hw => by exact rises_any vl L (E.length : Int) w (((H.on hw).arg hL))⟩, trivial, trivial⟩ fun a w31 hA H _ => ?_
      refine hK30 _ _ ?_
      refine go_cond hA (.tmp 40) (!(decide (risesP L (E.length : Int)))) (fun hb32 => ?_) (fun hb32 => ?_)
      · have hhb32 := of_decide_eq_false (nT hb32)
        refine go_seq fun K33 hK33 => ?_
        refine q_reg [(44, .agg #[v13a, v13b]), (45, .agg #[(.slice none 0 0), (.slice none 0 0)]), (46, .bool (decide ((((spanE n E L).1).1) = []) && decide ((((spanE n E L).1).2) = [])))] [(4, .bool ((decide ((spanE n E L).2 = 4)) && (decide ((((spanE n E L).1).1) = []) && decide ((((spanE n E L).1).2) = []))))] ((True) ∧ (True) ∧ (True) ∧ ((decide ((spanE n E L).2 = 4)) = true → (Try.prog.info? 29).isSome = true ∧ RowOk (On w31) b19 (0) (Try.prog.cellsOf 29) #[v13a, v13b]) ∧ ((decide ((spanE n E L).2 = 4)) = true → ∀ w, (Instr.build 29 #[]).run Try.prog w = .ok (.agg #[(.slice none 0 0), (.slice none 0 0)]) w) ∧ ((decide ((spanE n E L).2 = 4)) = true → Callable Try.prog 28 ∧ CallOk Try.prog (On w31) 28 [.agg #[v13a, v13b], .agg #[(.slice none 0 0), (.slice none 0 0)]].toArray (.bool (decide ((((spanE n E L).1).1) = []) && decide ((((spanE n E L).1).2) = [])))) ∧ (True) ∧ (True) ∧ True) hA H ⟨trivial, trivial, trivial, fun _ => ⟨by kernel_rfl, by exact box_row H 0 rfl 0 2⟩, fun _ => fun w => by kernel_rfl, fun _ => ⟨callable_of, callOk_of fun w hw => by exact same_any v13a v13b (.slice none 0 0) (.slice none 0 0) (((spanE n E L).1).1) (((spanE n E L).1).2) [] [] w (((H.on hw).get 2 rfl)) (((H.on hw).get 1 rfl)) (rd_nil) (rd_nil)⟩, trivial, trivial, trivial⟩ fun a w34 hA H _ => ?_
        refine hK33 _ _ ?_
        refine go_ret_ ?_
        refine ret_one 4 (.bool ((decide ((spanE n E L).2 = 4)) && (decide ((((spanE n E L).1).1) = []) && decide ((((spanE n E L).1).2) = [])))) hA ?_
        refine ans_b' ?_ H.below
        have e1 : spanE n E L = (([], []), 4) := (by unfold spanE; rw [if_neg (by omega), if_pos hhb32]); rw [e1]; simp
      · have hhb32 := of_decide_eq_true (nF hb32)
        refine go_skip ?_
        refine hK29 _ _ ?_
        refine go_seq fun K35 hK35 => ?_
        have hrs := hhb32
        have H0 := H
        have hM0 := H0.keeps none (.inl rfl)
        refine region_mix (But w31 none) [0, 1, 2, 3, 4, 5, 6, 7, 8] 10 ?_
        replace H := H.drawn; have hD := But.drew w31 none
        generalize ({ w31 with drawn := w31.drawn + 1 } : World) = w36 at H hD ⊢
        refine m_take (n := 7) [0, 1, 2] #[true, true, true, false, false, false, false, false, false, false] [] [(1, vl), (2, .pointer (some ⟨b2, 0, none⟩)), (5, .pointer (some ⟨b19, 0, none⟩)), (50, .bool (decide ((spanE n E L).2 = 0)))] ((True) ∧ (True) ∧ (True) ∧ True) hA hD ⟨trivial, trivial, trivial, trivial⟩ fun a hA => ?_
        have hb37 : (decide ((spanE n E L).2 = 0)) = true := (by rw [spanE_ok (by omega) hrs]; simp)
        have hhb37 := of_decide_eq_true hb37
        refine m_takeE (n := 4) [(50, true)] [3, 4, 5] #[true, true, true, true, true, true, false, false, false, false] [(51, .agg #[v13a, v13b]), (52, .agg #[.int .i64 n, ve])] [⟨50, [], .bool (decide ((spanE n E L).2 = 0))⟩, ⟨51, [], .agg #[v13a, v13b]⟩, ⟨52, [], .agg #[.int .i64 n, ve]⟩, ⟨53, [], vl⟩] (((((decide ((spanE n E L).2 = 0)) = true) ∧ True) ∧ ((Try.prog.info? 29).isSome = true ∧ RowOk (But w31 none) b19 (0) (Try.prog.cellsOf 29) #[v13a, v13b])) ∧ ((((decide ((spanE n E L).2 = 0)) = true) ∧ True) ∧ ((Try.prog.info? 24).isSome = true ∧ RowOk (But w31 none) b2 (0) (Try.prog.cellsOf 24) #[.int .i64 n, ve])) ∧ ((((decide ((spanE n E L).2 = 0)) = true) ∧ True) ∧ (True)) ∧ True) hA hD ⟨⟨⟨hb37, trivial⟩, ⟨by kernel_rfl, by exact box_rowC (box_atC H0 none 0 rfl (fun e => by cases e)) 0 2⟩⟩, ⟨⟨hb37, trivial⟩, ⟨by kernel_rfl, by exact box_rowC (box_atC H0 none 3 rfl (fun e => by cases e)) 0 2⟩⟩, ⟨⟨hb37, trivial⟩, trivial⟩, trivial⟩ fun a hA => ?_
        refine m_one 6 ?_; refine op_on [(50, true)] (((decide ((spanE n E L).2 = 0)) = true) ∧ True) hA ⟨hb37, trivial⟩ ?_; refine q_call 6 54 30 #[.tmp 52, .tmp 53] #[24, 27] [.agg #[.int .i64 n, ve], vl] (fun S v w' => Rd S w' v ((touchL E L n, L))) [(50, .bool (decide ((spanE n E L).2 = 0))), (51, .agg #[v13a, v13b])] hA H (by exact rspan_any n ve E vl L H.at (by omega) ((H.arg hE)) ((H.arg hL)) hrs (by omega) (by omega)) fun v38 a w39 S hR40 H hA hG => ?_
        obtain ⟨v38a, v38b, rfl, hR40a, hR40b⟩ := two_rd hR40
        replace H := H.ro hR40a; replace H := H.ro hR40b
        replace H : Fr _ _ _ [.ro v38b L, .ro v38a (touchL E L n), .box b19 29 [v13a, v13b], .ro v13b (((spanE n E L).1).2), .ro v13a (((spanE n E L).1).1), .box b2 24 [.int .i64 n, ve]] := H
        replace hD := hD.below hG
        refine ⟨fun _ => hD, ?_⟩
        refine m_one 7 ?_; refine q_oneE [(50, true)] 7 [(55, .bool (decide ((((spanE n E L).1).1) = (touchL E L n)) && decide ((((spanE n E L).1).2) = L)))] [⟨50, [], .bool (decide ((spanE n E L).2 = 0))⟩, ⟨55, [], .bool (decide ((((spanE n E L).1).1) = (touchL E L n)) && decide ((((spanE n E L).1).2) = L))⟩] (((((decide ((spanE n E L).2 = 0)) = true) ∧ True) ∧ (Callable Try.prog 29 ∧ CallOk Try.prog (On w39) 29 [.agg #[v13a, v13b], .agg #[v38a, v38b]].toArray (.bool (decide ((((spanE n E L).1).1) = (touchL E L n)) && decide ((((spanE n E L).1).2) = L))))) ∧ True) hA H ⟨⟨⟨hb37, trivial⟩, ⟨callable_of, callOk_of fun w hw => by exact rsame_any v13a v13b v38a v38b (((spanE n E L).1).1) (((spanE n E L).1).2) (touchL E L n) L w (((H.on hw).get 4 rfl)) (((H.on hw).get 3 rfl)) (((H.on hw).get 1 rfl)) (((H.on hw).get 0 rfl))⟩⟩, trivial⟩ fun a w43 H hA hG => ?_
        replace hD := hD.below hG
        refine ⟨fun _ => hD, ?_⟩
        refine m_takeK (n := 1) [(50, true)] [8] #[true, true, true, true, true, true, true, true, true, false] [] [(56, .bool (decide ((((spanE n E L).1).1) = (touchL E L n)) && decide ((((spanE n E L).1).2) = L)))] (((True) ∧ ((decide ((spanE n E L).2 = 0)) = true)) ∧ True) hA hD ⟨⟨trivial, hb37⟩, trivial⟩ fun a hA => ?_
        refine m_one 9 ?_; refine q_oneK [(50, true)] 9 [] [(4, .bool (decide ((((spanE n E L).1).1) = (touchL E L n)) && decide ((((spanE n E L).1).2) = L)))] (((True) ∧ (True)) ∧ True) hA H ⟨⟨trivial, trivial⟩, trivial⟩ fun a w44 H hA hG => ?_
        refine ⟨fun h => absurd h (by decide), ?_⟩
        refine m_end ?_
        refine hK35 _ _ ?_
        refine go_ret_ ?_
        refine ret_one 4 (.bool (decide ((((spanE n E L).1).1) = (touchL E L n)) && decide ((((spanE n E L).1).2) = L))) hA ?_
        refine ans_b' ?_ H.below
        rw [spanE_ok (by omega) hrs]; simp

end Go.Proofs.Ytahonnlgkmimlaa
