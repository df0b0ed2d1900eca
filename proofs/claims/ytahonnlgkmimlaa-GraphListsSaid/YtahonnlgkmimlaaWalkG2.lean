/-
  Walks, written by program: Ends, RightPart.
-/
import Derived.Test.YtahonnlgkmimlaaProg
import Derived.Test.YtahonnlgkmimlaaWalkG1
set_option linter.unusedSimpArgs false
set_option linter.unusedVariables false
namespace Go.Proofs.Ytahonnlgkmimlaa
open Go.RowKit

set_option maxRecDepth 100000 in
set_option maxHeartbeats 1000000 in
theorem ends_any (n : Int) (ve : Value) (E : List (Int × Int)) (d : Int) (w : World) (hn : -9223372036854775808 ≤ n ∧ n ≤ 9223372036854775807) (hE : Rd (· < w.heap.size) w ve E) (hd : -9223372036854775808 ≤ d ∧ d ≤ 9223372036854775807) :
  Calls Try.prog 19 [.agg #[.int .i64 n, ve], .int .i64 d].toArray w (Ans (.tuple #[.int .i64 (endsE n E d).1, .int .i64 (endsE n E d).2.1, .bool (endsE n E d).2.2]) w) := by
  refine enter Try.f19 40 Try.func19 fun a hA => ?_
  replace hA := env_sub [(0, .agg #[.int .i64 n, ve]), (1, .int .i64 d)] hA
  have H := Fr.start (org w)
  refine go_seq fun K1 hK1 => ?_
  refine region_list ?_
  refine list_at 0 ?_; refine q_box 0 2 24 (.tmp 0) (.agg #[.int .i64 n, ve]) [.int .i64 n, ve] [(1, .int .i64 d)] hA H fun b2 a w3 H hA hG hge_b2 => ?_
  clear hge_b2
  refine q_list 1 3 [] [(1, .int .i64 d), (2, .pointer (some ⟨b2, 0, none⟩))] ((True) ∧ (True) ∧ (True) ∧ True) hA H ⟨trivial, trivial, trivial, trivial⟩ fun a w4 hA H _ => ?_
  refine list_end ?_
  refine hK1 _ _ ?_
  refine go_seq fun K5 hK5 => ?_
  refine go_seq fun K6 hK6 => ?_
  refine q_reg [(8, .agg #[.int .i64 n, ve]), (9, .int .i64 (rightE n E)), (19, ve), (20, .int .i64 (E.length : Int))] [(1, .int .i64 d), (2, .pointer (some ⟨b2, 0, none⟩)), (22, .bool (((!decide (rightE n E = 0)) || (decide (d < 0))) || (decide ((E.length : Int) ≤ d / 2))))] (((Try.prog.info? 24).isSome = true ∧ RowOk (On w4) b2 (0) (Try.prog.cellsOf 24) #[.int .i64 n, ve]) ∧ (Callable Try.prog 20 ∧ CallOk Try.prog (On w4) 20 [.agg #[.int .i64 n, ve]].toArray (.int .i64 (rightE n E))) ∧ (True) ∧ (True) ∧ ((!decide (rightE n E = 0)) = false → True) ∧ ((!decide (rightE n E = 0)) = false → True) ∧ (True) ∧ (True) ∧ (((!decide (rightE n E = 0)) || (decide (d < 0))) = false → True) ∧ (((!decide (rightE n E = 0)) || (decide (d < 0))) = false → 0 ≤ d ∧ 0 < (2 : Int) ∧ InR .i64 d) ∧ (((!decide (rightE n E = 0)) || (decide (d < 0))) = false → 0 < Try.prog.cellsOf 22) ∧ (((!decide (rightE n E = 0)) || (decide (d < 0))) = false → CellOk (On w4) b2 (0 + 1) (ve)) ∧ (((!decide (rightE n E = 0)) || (decide (d < 0))) = false → LenOk ve (E.length : Int)) ∧ (((!decide (rightE n E = 0)) || (decide (d < 0))) = false → True) ∧ (True) ∧ True) hA H ⟨⟨by kernel_rfl, by exact box_row H 0 rfl 0 2⟩, ⟨callable_of, callOk_of fun w hw => by exact right_any n ve E w (by omega) ((H.on hw).arg hE)⟩, trivial, trivial, fun _ => trivial, fun _ => trivial, trivial, trivial, fun _ => trivial, fun hg0 => by replace hg0 := (⟨of_decide_eq_true (nF ((oF hg0).1)), of_decide_eq_false ((oF hg0).2)⟩ : _ ∧ _); exact ⟨by omega, by omega, by omega, by omega⟩, fun _ => by decide +kernel, fun _ => by exact box_cell H 0 rfl 1, fun _ => by exact len_ok (H.arg hE), fun _ => trivial, trivial, trivial⟩ fun a w7 hA H _ => ?_
  refine hK6 _ _ ?_
  refine go_cond hA (.tmp 22) (((!decide (rightE n E = 0)) || (decide (d < 0))) || (decide ((E.length : Int) ≤ d / 2))) (fun hb8 => ?_) (fun hb8 => ?_)
  · have hhb8 := (oT hb8).imp (fun h => (oT h).imp (fun h => of_decide_eq_false (nT h)) (fun h => of_decide_eq_true h)) (fun h => of_decide_eq_true h)
    refine go_seq fun K9 hK9 => ?_
    refine q_reg [] [(4, .int .i64 0), (5, .int .i64 0), (6, .bool false)] ((True) ∧ (True) ∧ (True) ∧ True) hA H ⟨trivial, trivial, trivial, trivial⟩ fun a w10 hA H _ => ?_
    refine hK9 _ _ ?_
    refine go_ret_ ?_
    refine ret_three 4 5 6 (.int .i64 0) (.int .i64 0) (.bool false) hA ?_
    exact ans_iib (by unfold endsE; first | rw [if_pos (by omega)] | (rw [if_neg (by omega), if_pos (by omega)]) | (rw [if_neg (by omega), if_neg (by omega)])) H.below
  · have hhb8 := (⟨(⟨of_decide_eq_true (nF ((oF ((oF hb8).1)).1)), of_decide_eq_false ((oF ((oF hb8).1)).2)⟩ : _ ∧ _), of_decide_eq_false ((oF hb8).2)⟩ : _ ∧ _)
    refine go_skip ?_
    refine hK5 _ _ ?_
    refine go_seq fun K11 hK11 => ?_
    refine region_list ?_
    refine q_list 0 6 [(24, ve), (28, .agg #[.int .i64 ((E.getD (d / 2).toNat (0, 0)).1), .int .i64 ((E.getD (d / 2).toNat (0, 0)).2)])] [(1, .int .i64 d), (28, .agg #[.int .i64 ((E.getD (d / 2).toNat (0, 0)).1), .int .i64 ((E.getD (d / 2).toNat (0, 0)).2)])] ((0 < Try.prog.cellsOf 22) ∧ (CellOk (On w7) b2 (0 + 1) (ve)) ∧ (True) ∧ (0 ≤ d ∧ 0 < (2 : Int) ∧ InR .i64 d) ∧ ((Try.prog.info? 99).isSome = true ∧ IdxOk ve (d / 2)) ∧ ((Try.prog.info? 99).isSome = true ∧ RowOk (On w7) (hdB ve) (hdO ve + (d / 2).toNat * 2) (Try.prog.cellsOf 99) #[.int .i64 ((E.getD (d / 2).toNat (0, 0)).1), .int .i64 ((E.getD (d / 2).toNat (0, 0)).2)]) ∧ True) hA H ⟨by decide +kernel, by exact box_cell H 0 rfl 1, trivial, ⟨by omega, by omega, by omega, by omega⟩, ⟨by kernel_rfl, by exact idx_ok (H.arg hE) (by omega) (by omega)⟩, ⟨by kernel_rfl, by exact row_flat (i := d / 2) (H.arg hE) (by omega) (by omega) (0, 0)⟩, trivial⟩ fun a w12 hA H _ => ?_
    refine list_at 6 ?_; refine q_alloc 6 7 99 [.int .i64 0, .int .i64 0] [(1, .int .i64 d), (28, .agg #[.int .i64 ((E.getD (d / 2).toNat (0, 0)).1), .int .i64 ((E.getD (d / 2).toNat (0, 0)).2)])] hA H fun b13 a w14 H hA hG hge_b13 => ?_
    clear hge_b13
    refine list_at 7 ?_; refine q_store 7 99 (.tmp 7) (.tmp 28) 0 b13 (0) 99 [.int .i64 0, .int .i64 0] [.int .i64 ((E.getD (d / 2).toNat (0, 0)).1), .int .i64 ((E.getD (d / 2).toNat (0, 0)).2)] [.int .i64 ((E.getD (d / 2).toNat (0, 0)).1), .int .i64 ((E.getD (d / 2).toNat (0, 0)).2)] (.agg #[.int .i64 ((E.getD (d / 2).toNat (0, 0)).1), .int .i64 ((E.getD (d / 2).toNat (0, 0)).2)]) [(1, .int .i64 d), (7, .pointer (some ⟨b13, 0, none⟩))] hA H rfl rfl (Nat.le_of_ble_eq_true (by kernel_rfl)) rfl (fun v hv => by simp only [List.mem_cons, List.not_mem_nil, or_false] at hv; rcases hv with rfl | rfl; exact rfl; exact rfl) fun a w15 H hA hG => ?_
    replace H : Fr _ _ _ [.box b13 99 [.int .i64 ((E.getD (d / 2).toNat (0, 0)).1), .int .i64 ((E.getD (d / 2).toNat (0, 0)).2)], .box b2 24 [.int .i64 n, ve]] := H
    refine list_end ?_
    refine hK11 _ _ ?_
    refine go_seq fun K16 hK16 => ?_
    refine go_seq fun K17 hK17 => ?_
    refine q_reg [] [(7, .pointer (some ⟨b13, 0, none⟩)), (31, .bool (decide (d % 2 = 0)))] ((True) ∧ (0 ≤ d ∧ 0 < (2 : Int)) ∧ (True) ∧ True) hA H ⟨trivial, ⟨by omega, by omega⟩, trivial, trivial⟩ fun a w18 hA H _ => ?_
    refine hK17 _ _ ?_
    refine go_cond hA (.tmp 31) (decide (d % 2 = 0)) (fun hb19 => ?_) (fun hb19 => ?_)
    · have hhb19 := of_decide_eq_true hb19
      refine go_seq fun K20 hK20 => ?_
      refine q_draw [(33, .int .i64 ((E.getD (d / 2).toNat (0, 0)).1)), (35, .int .i64 ((E.getD (d / 2).toNat (0, 0)).2))] [(4, .int .i64 ((E.getD (d / 2).toNat (0, 0)).1)), (5, .int .i64 ((E.getD (d / 2).toNat (0, 0)).2)), (6, .bool true)] ((0 < Try.prog.cellsOf 3) ∧ (CellOk (On w18) b13 (0 + 0) (.int .i64 ((E.getD (d / 2).toNat (0, 0)).1))) ∧ (0 < Try.prog.cellsOf 3) ∧ (CellOk (On w18) b13 (0 + 1) (.int .i64 ((E.getD (d / 2).toNat (0, 0)).2))) ∧ (True) ∧ (True) ∧ (True) ∧ True) hA H ⟨by decide +kernel, by exact box_cell H 0 rfl 0, by decide +kernel, by exact box_cell H 0 rfl 1, trivial, trivial, trivial, trivial⟩ fun a w21 hA H _ => ?_
      refine hK20 _ _ ?_
      refine go_ret_ ?_
      refine ret_three 4 5 6 (.int .i64 ((E.getD (d / 2).toNat (0, 0)).1)) (.int .i64 ((E.getD (d / 2).toNat (0, 0)).2)) (.bool true) hA ?_
      exact ans_iib (by unfold endsE; first | rw [if_pos (by omega)] | (rw [if_neg (by omega), if_pos (by omega)]) | (rw [if_neg (by omega), if_neg (by omega)])) H.below
    · have hhb19 := of_decide_eq_false hb19
      refine go_skip ?_
      refine hK16 _ _ ?_
      refine go_seq fun K22 hK22 => ?_
      refine q_draw [(37, .int .i64 ((E.getD (d / 2).toNat (0, 0)).2)), (39, .int .i64 ((E.getD (d / 2).toNat (0, 0)).1))] [(4, .int .i64 ((E.getD (d / 2).toNat (0, 0)).2)), (5, .int .i64 ((E.getD (d / 2).toNat (0, 0)).1)), (6, .bool true)] ((0 < Try.prog.cellsOf 3) ∧ (CellOk (On w18) b13 (0 + 1) (.int .i64 ((E.getD (d / 2).toNat (0, 0)).2))) ∧ (0 < Try.prog.cellsOf 3) ∧ (CellOk (On w18) b13 (0 + 0) (.int .i64 ((E.getD (d / 2).toNat (0, 0)).1))) ∧ (True) ∧ (True) ∧ (True) ∧ True) hA H ⟨by decide +kernel, by exact box_cell H 0 rfl 1, by decide +kernel, by exact box_cell H 0 rfl 0, trivial, trivial, trivial, trivial⟩ fun a w23 hA H _ => ?_
      refine hK22 _ _ ?_
      refine go_ret_ ?_
      refine ret_three 4 5 6 (.int .i64 ((E.getD (d / 2).toNat (0, 0)).2)) (.int .i64 ((E.getD (d / 2).toNat (0, 0)).1)) (.bool true) hA ?_
      exact ans_iib (by unfold endsE; first | rw [if_pos (by omega)] | (rw [if_neg (by omega), if_pos (by omega)]) | (rw [if_neg (by omega), if_neg (by omega)])) H.below

set_option maxRecDepth 100000 in
set_option maxHeartbeats 1000000 in
theorem rightPart_any (n : Int) (ve : Value) (E : List (Int × Int)) (vv vl : Value) (V L : List Int) (w : World) (hn : -9223372036854775808 ≤ n ∧ n ≤ 9223372036854775807) (hE : Rd (· < w.heap.size) w ve E) (hV : Rd (· < w.heap.size) w vv V) (hL : Rd (· < w.heap.size) w vl L) :
  Calls Try.prog 31 [.agg #[.int .i64 n, ve], .agg #[vv, vl]].toArray w (Ans (.int .i64 (partE n E V L)) w) := by
  refine enter Try.f31 58 Try.func31 fun a hA => ?_
  replace hA := env_sub [(0, .agg #[.int .i64 n, ve]), (1, .agg #[vv, vl])] hA
  have H := Fr.start (org w)
  refine go_seq fun K1 hK1 => ?_
  refine region_list ?_
  refine list_at 0 ?_; refine q_box 0 2 24 (.tmp 0) (.agg #[.int .i64 n, ve]) [.int .i64 n, ve] [(1, .agg #[vv, vl])] hA H fun b2 a w3 H hA hG hge_b2 => ?_
  clear hge_b2
  refine list_at 1 ?_; refine q_box 1 3 29 (.tmp 1) (.agg #[vv, vl]) [vv, vl] [(2, .pointer (some ⟨b2, 0, none⟩))] hA H fun b4 a w5 H hA hG hge_b4 => ?_
  clear hge_b4
  refine q_list 2 1 [] [(2, .pointer (some ⟨b2, 0, none⟩)), (3, .pointer (some ⟨b4, 0, none⟩))] ((True) ∧ True) hA H ⟨trivial, trivial⟩ fun a w6 hA H _ => ?_
  refine list_end ?_
  refine hK1 _ _ ?_
  refine go_seq fun K7 hK7 => ?_
  refine go_seq fun K8 hK8 => ?_
  refine q_reg [(8, .agg #[.int .i64 n, ve]), (9, .int .i64 (rightE n E))] [(2, .pointer (some ⟨b2, 0, none⟩)), (3, .pointer (some ⟨b4, 0, none⟩)), (5, .int .i64 (rightE n E))] (((Try.prog.info? 24).isSome = true ∧ RowOk (On w6) b2 (0) (Try.prog.cellsOf 24) #[.int .i64 n, ve]) ∧ (Callable Try.prog 20 ∧ CallOk Try.prog (On w6) 20 [.agg #[.int .i64 n, ve]].toArray (.int .i64 (rightE n E))) ∧ (True) ∧ True) hA H ⟨⟨by kernel_rfl, by exact box_row H 1 rfl 0 2⟩, ⟨callable_of, callOk_of fun w hw => by exact right_any n ve E w (by omega) ((H.on hw).arg hE)⟩, trivial, trivial⟩ fun a w9 hA H _ => ?_
  refine hK8 _ _ ?_
  refine go_seq fun K10 hK10 => ?_
  refine q_reg [] [(2, .pointer (some ⟨b2, 0, none⟩)), (3, .pointer (some ⟨b4, 0, none⟩)), (5, .int .i64 (rightE n E)), (11, .bool (!decide (rightE n E = 0)))] ((True) ∧ (True) ∧ True) hA H ⟨trivial, trivial, trivial⟩ fun a w11 hA H _ => ?_
  refine hK10 _ _ ?_
  refine go_cond hA (.tmp 11) (!decide (rightE n E = 0)) (fun hb12 => ?_) (fun hb12 => ?_)
  · have hhb12 := of_decide_eq_false (nT hb12)
    refine go_seq fun K13 hK13 => ?_
    refine q_reg [] [(4, .int .i64 (rightE n E))] ((True) ∧ (True) ∧ True) hA H ⟨trivial, trivial, trivial⟩ fun a w14 hA H _ => ?_
    refine hK13 _ _ ?_
    refine go_ret_ ?_
    refine ret_one 4 (.int .i64 (rightE n E)) hA ?_
    exact ans_i' (by unfold partE; rw [if_pos hhb12]) H.below
  · have hhb12 := of_decide_eq_true (nF hb12)
    refine go_skip ?_
    refine hK7 _ _ ?_
    refine go_seq fun K15 hK15 => ?_
    refine go_seq fun K16 hK16 => ?_
    refine q_reg [(14, vv), (16, .int .i64 n), (17, .bool (decide (risesP V n))), (21, vl), (23, ve), (24, .int .i64 (E.length : Int)), (25, .bool (decide (risesP L (E.length : Int))))] [(2, .pointer (some ⟨b2, 0, none⟩)), (3, .pointer (some ⟨b4, 0, none⟩)), (27, .bool ((!(decide (risesP V n))) || (!(decide (risesP L (E.length : Int))))))] ((0 < Try.prog.cellsOf 27) ∧ (CellOk (On w11) b4 (0 + 0) (vv)) ∧ (0 < Try.prog.cellsOf 3) ∧ (CellOk (On w11) b2 (0 + 0) (.int .i64 n)) ∧ (Callable Try.prog 73 ∧ CallOk Try.prog (On w11) 73 [vv, .int .i64 n].toArray (.bool (decide (risesP V n)))) ∧ (True) ∧ (True) ∧ ((!(decide (risesP V n))) = false → 0 < Try.prog.cellsOf 27) ∧ ((!(decide (risesP V n))) = false → CellOk (On w11) b4 (0 + 1) (vl)) ∧ ((!(decide (risesP V n))) = false → 0 < Try.prog.cellsOf 22) ∧ ((!(decide (risesP V n))) = false → CellOk (On w11) b2 (0 + 1) (ve)) ∧ ((!(decide (risesP V n))) = false → LenOk ve (E.length : Int)) ∧ ((!(decide (risesP V n))) = false → Callable Try.prog 73 ∧ CallOk Try.prog (On w11) 73 [vl, .int .i64 (E.length : Int)].toArray (.bool (decide (risesP L (E.length : Int))))) ∧ ((!(decide (risesP V n))) = false → True) ∧ (True) ∧ True) hA H ⟨by decide +kernel, by exact box_cell H 0 rfl 0, by decide +kernel, by exact box_cell H 1 rfl 0, ⟨callable_of, callOk_of fun w hw => by exact rising_any vv V n w ((H.on hw).arg hV)⟩, trivial, trivial, fun _ => by decide +kernel, fun _ => by exact box_cell H 0 rfl 1, fun _ => by decide +kernel, fun _ => by exact box_cell H 1 rfl 1, fun _ => by exact len_ok (H.arg hE), fun _ => ⟨callable_of, callOk_of fun w hw => by exact rising_any vl L (E.length : Int) w ((H.on hw).arg hL)⟩, fun _ => trivial, trivial, trivial⟩ fun a w17 hA H _ => ?_
    refine hK16 _ _ ?_
    refine go_cond hA (.tmp 27) ((!(decide (risesP V n))) || (!(decide (risesP L (E.length : Int))))) (fun hb18 => ?_) (fun hb18 => ?_)
    · have hhb18 := (oT hb18).imp (fun h => of_decide_eq_false (nT h)) (fun h => of_decide_eq_false (nT h))
      refine go_seq fun K19 hK19 => ?_
      refine q_reg [] [(4, .int .i64 4)] ((True) ∧ True) hA H ⟨trivial, trivial⟩ fun a w20 hA H _ => ?_
      refine hK19 _ _ ?_
      refine go_ret_ ?_
      refine ret_one 4 (.int .i64 4) hA ?_
      exact ans_i' (by unfold partE; rw [if_neg (by omega), if_pos hhb18]) H.below
    · have hhb18 := (⟨of_decide_eq_true (nF ((oF hb18).1)), of_decide_eq_true (nF ((oF hb18).2))⟩ : _ ∧ _)
      refine go_skip ?_
      refine hK15 _ _ ?_
      refine go_seq fun K21 hK21 => ?_
      refine go_seq fun K22 hK22 => ?_
      have hr0 := rightE_0 (n := n) (E := E) (by omega)
      obtain ⟨hr1, hr2⟩ := hhb18
      have hv9 := rises_len hr1 (by omega)
      have hl9 := rises_len hr2 (by omega)
      refine q_reg [(29, vl), (30, .int .i64 (L.length : Int))] [(2, .pointer (some ⟨b2, 0, none⟩)), (3, .pointer (some ⟨b4, 0, none⟩)), (29, vl), (30, .int .i64 (L.length : Int)), (31, .int .i64 0)] ((0 < Try.prog.cellsOf 27) ∧ (CellOk (On w17) b4 (0 + 1) (vl)) ∧ (LenOk vl (L.length : Int)) ∧ (True) ∧ True) hA H ⟨by decide +kernel, by exact box_cell H 0 rfl 1, by exact len_ok (H.arg hL), trivial, trivial⟩ fun a w23 hA H _ => ?_
      refine hK22 _ _ ?_
      refine go_block 0 ?_
      refine go_loop_ (Int) (fun x_ a W => (fun (i : Int) => EnvOk 58 a (keepEnv [(2, .pointer (some ⟨b2, 0, none⟩)), (3, .pointer (some ⟨b4, 0, none⟩)), (29, vl), (30, .int .i64 (L.length : Int)), (31, .int .i64 i)]) ∧ (∃ S, Fr (org w) W S [.box b4 29 [vv, vl], .box b2 24 [.int .i64 n, ve]]) ∧ 0 ≤ i ∧ ∀ j : Nat, (j : Int) < i → hasB V (E.getD (L.getD j 0).toNat (0, 0)).1 = true ∧ hasB V (E.getD (L.getD j 0).toNat (0, 0)).2 = true) x_) (fun x_ => (fun (i : Int) => ((L.length : Int) - i).toNat) x_) (0) ?_ (fun i a w25 hI => ?_)
      · (try dsimp only); exact ⟨env_sub _ hA, ⟨_, H⟩, by omega, fun j hj => by omega⟩
      obtain ⟨hA, ⟨S, H⟩, h0, hok⟩ := hI
      try dsimp only at h0 hok
      refine go_seq fun K26 hK26 => ?_
      refine q_reg [] [(2, .pointer (some ⟨b2, 0, none⟩)), (3, .pointer (some ⟨b4, 0, none⟩)), (29, vl), (30, .int .i64 (L.length : Int)), (31, .int .i64 i), (32, .bool (decide (i < (L.length : Int))))] ((True) ∧ True) hA H ⟨trivial, trivial⟩ fun a w27 hA H _ => ?_
      refine hK26 _ _ ?_
      refine go_seq fun K28 hK28 => ?_
      refine go_cond hA (.tmp 32) (decide (i < (L.length : Int))) (fun hb29 => ?_) (fun hb29 => ?_)
      · have hhb29 := of_decide_eq_true hb29
        refine go_skip ?_
        refine hK28 _ _ ?_
        refine go_seq fun K30 hK30 => ?_
        refine go_block 1 ?_
        refine go_seq fun K31 hK31 => ?_
        refine q_reg [(34, .int .i64 (L.getD i.toNat 0))] [(2, .pointer (some ⟨b2, 0, none⟩)), (3, .pointer (some ⟨b4, 0, none⟩)), (7, .int .i64 (L.getD i.toNat 0)), (29, vl), (30, .int .i64 (L.length : Int)), (31, .int .i64 i)] (((Try.prog.info? 3).isSome = true ∧ IdxOk vl i) ∧ (CellOk (On w27) (hdB vl) (hdO vl + i.toNat * 1) (.int .i64 (L.getD i.toNat 0))) ∧ (True) ∧ True) hA H ⟨⟨by kernel_rfl, by exact idx_ok (H.arg hL) (by omega) (by omega)⟩, by exact cell_flat (i := i) (H.arg hL) (by omega) (by omega) 0 0, trivial, trivial⟩ fun a w32 hA H _ => ?_
        refine hK31 _ _ ?_
        refine go_seq fun K33 hK33 => ?_
        have hx := hr2 i.toNat (by omega)
        refine q_draw [(36, vv), (38, ve), (42, .int .i64 ((E.getD (L.getD i.toNat 0).toNat (0, 0)).1)), (43, .bool (hasB V ((E.getD (L.getD i.toNat 0).toNat (0, 0)).1))), (47, vv), (49, ve), (53, .int .i64 ((E.getD (L.getD i.toNat 0).toNat (0, 0)).2)), (54, .bool (hasB V ((E.getD (L.getD i.toNat 0).toNat (0, 0)).2)))] [(2, .pointer (some ⟨b2, 0, none⟩)), (3, .pointer (some ⟨b4, 0, none⟩)), (29, vl), (30, .int .i64 (L.length : Int)), (31, .int .i64 i), (56, .bool ((!(hasB V ((E.getD (L.getD i.toNat 0).toNat (0, 0)).1))) || (!(hasB V ((E.getD (L.getD i.toNat 0).toNat (0, 0)).2)))))] ((0 < Try.prog.cellsOf 27) ∧ (CellOk (On w32) b4 (0 + 0) (vv)) ∧ (0 < Try.prog.cellsOf 22) ∧ (CellOk (On w32) b2 (0 + 1) (ve)) ∧ (True) ∧ ((Try.prog.info? 99).isSome = true ∧ IdxOk ve (L.getD i.toNat 0)) ∧ (0 < Try.prog.cellsOf 3) ∧ (CellOk (On w32) (hdB ve) (hdO ve + (L.getD i.toNat 0).toNat * 2 + 0) (.int .i64 ((E.getD (L.getD i.toNat 0).toNat (0, 0)).1))) ∧ (Callable Try.prog 39 ∧ CallOk Try.prog (On w32) 39 [vv, .int .i64 ((E.getD (L.getD i.toNat 0).toNat (0, 0)).1)].toArray (.bool (hasB V ((E.getD (L.getD i.toNat 0).toNat (0, 0)).1)))) ∧ (True) ∧ (True) ∧ ((!(hasB V ((E.getD (L.getD i.toNat 0).toNat (0, 0)).1))) = false → 0 < Try.prog.cellsOf 27) ∧ ((!(hasB V ((E.getD (L.getD i.toNat 0).toNat (0, 0)).1))) = false → CellOk (On w32) b4 (0 + 0) (vv)) ∧ ((!(hasB V ((E.getD (L.getD i.toNat 0).toNat (0, 0)).1))) = false → 0 < Try.prog.cellsOf 22) ∧ ((!(hasB V ((E.getD (L.getD i.toNat 0).toNat (0, 0)).1))) = false → CellOk (On w32) b2 (0 + 1) (ve)) ∧ ((!(hasB V ((E.getD (L.getD i.toNat 0).toNat (0, 0)).1))) = false → True) ∧ ((!(hasB V ((E.getD (L.getD i.toNat 0).toNat (0, 0)).1))) = false → (Try.prog.info? 99).isSome = true ∧ IdxOk ve (L.getD i.toNat 0)) ∧ ((!(hasB V ((E.getD (L.getD i.toNat 0).toNat (0, 0)).1))) = false → 0 < Try.prog.cellsOf 3) ∧ ((!(hasB V ((E.getD (L.getD i.toNat 0).toNat (0, 0)).1))) = false → CellOk (On w32) (hdB ve) (hdO ve + (L.getD i.toNat 0).toNat * 2 + 1) (.int .i64 ((E.getD (L.getD i.toNat 0).toNat (0, 0)).2))) ∧ ((!(hasB V ((E.getD (L.getD i.toNat 0).toNat (0, 0)).1))) = false → Callable Try.prog 39 ∧ CallOk Try.prog (On w32) 39 [vv, .int .i64 ((E.getD (L.getD i.toNat 0).toNat (0, 0)).2)].toArray (.bool (hasB V ((E.getD (L.getD i.toNat 0).toNat (0, 0)).2)))) ∧ ((!(hasB V ((E.getD (L.getD i.toNat 0).toNat (0, 0)).1))) = false → True) ∧ (True) ∧ True) hA H ⟨by decide +kernel, by exact box_cell H 0 rfl 0, by decide +kernel, by exact box_cell H 1 rfl 1, trivial, ⟨by kernel_rfl, by exact idx_ok (H.arg hE) (by omega) (by omega)⟩, by decide +kernel, by exact cell_flat (i := (L.getD i.toNat 0)) (H.arg hE) (by omega) (by omega) (0, 0) 0, ⟨callable_of, callOk_of fun w hw => by exact has_any vv V ((E.getD (L.getD i.toNat 0).toNat (0, 0)).1) w ((H.on hw).arg hV) (by omega)⟩, trivial, trivial, fun _ => by decide +kernel, fun _ => by exact box_cell H 0 rfl 0, fun _ => by decide +kernel, fun _ => by exact box_cell H 1 rfl 1, fun _ => trivial, fun hg0 => by replace hg0 := (nF hg0); exact ⟨by kernel_rfl, by exact idx_ok (H.arg hE) (by omega) (by omega)⟩, fun _ => by decide +kernel, fun hg0 => by replace hg0 := (nF hg0); exact by exact cell_flat (i := (L.getD i.toNat 0)) (H.arg hE) (by omega) (by omega) (0, 0) 1, fun hg0 => by replace hg0 := (nF hg0); exact ⟨callable_of, callOk_of fun w hw => by exact has_any vv V ((E.getD (L.getD i.toNat 0).toNat (0, 0)).2) w ((H.on hw).arg hV) (by omega)⟩, fun _ => trivial, trivial, trivial⟩ fun a w34 hA H _ => ?_
        refine hK33 _ _ ?_
        refine go_cond hA (.tmp 56) ((!(hasB V ((E.getD (L.getD i.toNat 0).toNat (0, 0)).1))) || (!(hasB V ((E.getD (L.getD i.toNat 0).toNat (0, 0)).2)))) (fun hb35 => ?_) (fun hb35 => ?_)
        · have hhb35 := (oT hb35).imp (fun h => (nT h)) (fun h => (nT h))
          refine go_seq fun K36 hK36 => ?_
          refine q_reg [] [(4, .int .i64 4)] ((True) ∧ True) hA H ⟨trivial, trivial⟩ fun a w37 hA H _ => ?_
          refine hK36 _ _ ?_
          refine go_ret_ ?_
          refine ret_one 4 (.int .i64 4) hA ?_
          exact ans_i' (by unfold partE; rw [if_neg (by omega), if_neg (by rintro (q | q); exact q hr1; exact q hr2), if_neg (fun q : okPart E V L => by have z := q i.toNat (by omega); rcases hhb35 with y | y; rw [z.1] at y; cases y; rw [z.2] at y; cases y)]) H.below
        · have hhb35 := (⟨(nF ((oF hb35).1)), (nF ((oF hb35).2))⟩ : _ ∧ _)
          refine go_skip ?_
          refine hK30 _ _ ?_
          refine q_reg [] [(2, .pointer (some ⟨b2, 0, none⟩)), (3, .pointer (some ⟨b4, 0, none⟩)), (29, vl), (30, .int .i64 (L.length : Int)), (31, .int .i64 (i + 1))] ((InR .i64 (i + 1)) ∧ (True) ∧ True) hA H ⟨⟨by omega, by omega⟩, trivial, trivial⟩ fun a w38 hA H _ => ?_
          refine ⟨(i + 1), ⟨env_sub _ hA, ⟨_, H⟩, ?_⟩, ?_⟩
          · (try dsimp only); exact ⟨by omega, fun j hj => if e : (j : Int) = i then (by rw [show j = i.toNat by omega]; exact hhb35) else hok j (by omega)⟩
          · (try dsimp only); omega
      · have hhb29 := of_decide_eq_false hb29
        refine go_exit 0 ?_
        refine hK21 _ _ ?_
        refine go_seq fun K39 hK39 => ?_
        refine q_reg [] [(4, .int .i64 0)] ((True) ∧ True) hA H ⟨trivial, trivial⟩ fun a w40 hA H _ => ?_
        refine hK39 _ _ ?_
        refine go_ret_ ?_
        refine ret_one 4 (.int .i64 0) hA ?_
        exact ans_i' (by unfold partE; rw [if_neg (by omega), if_neg (by rintro (q | q); exact q hr1; exact q hr2), if_pos (show okPart E V L from fun j hj => hok j (by omega))]) H.below

end Go.Proofs.Ytahonnlgkmimlaa
