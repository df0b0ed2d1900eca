/-
  Walks, written by program: letter, mark, Class, refClass.
-/
import Derived.Test.YtbdgelipabndaaaProg
import Derived.Test.YtbdgelipabndaaaWordC
import Derived.Test.YtbdgelipabndaaaTabW
set_option linter.unusedSimpArgs false
set_option linter.unusedVariables false
namespace Go.Proofs.Ytbdgelipabndaaa
open Go.RowKit

set_option maxRecDepth 100000 in
set_option maxHeartbeats 1000000 in
theorem letter_any (r : Int) (w : World) :
  Calls Try.prog 25 [.int .i32 r].toArray w (Ans (.bool (letB r)) w) := by
  refine enter Try.f25 44 Try.func25 fun a hA => ?_
  replace hA := env_sub [(0, .int .i32 r)] hA
  have H := Fr.start (org w)
  refine go_seq fun K1 hK1 => ?_
  refine q_reg [] [(0, .int .i32 r)] ((True) ∧ True) hA H ⟨trivial, trivial⟩ fun a w2 hA H hG => ?_
  refine hK1 _ _ ?_
  refine go_seq fun K3 hK3 => ?_
  refine go_block 0 ?_
  refine go_seq fun K4 hK4 => ?_
  refine go_seq fun K5 hK5 => ?_
  refine q_reg [] [(0, .int .i32 r), (3, .bool ((decide ((97 : Int) ≤ r)) && (decide (r ≤ 122))))] ((True) ∧ (True) ∧ (True) ∧ ((decide ((97 : Int) ≤ r)) = true → True) ∧ ((decide ((97 : Int) ≤ r)) = true → True) ∧ (True) ∧ (True) ∧ True) hA H ⟨trivial, trivial, trivial, fun _ => trivial, fun _ => trivial, trivial, trivial, trivial⟩ fun a w6 hA H hG => ?_
  refine hK5 _ _ ?_
  refine go_cond hA (.tmp 3) ((decide ((97 : Int) ≤ r)) && (decide (r ≤ 122))) (fun hb7 => ?_) (fun hb7 => ?_)
  · have hhb7 := (⟨of_decide_eq_true ((aT hb7).1), of_decide_eq_true ((aT hb7).2)⟩ : _ ∧ _)
    refine go_skip ?_
    refine hK4 _ _ ?_
    refine go_cond hA (.tmp 3) ((decide ((97 : Int) ≤ r)) && (decide (r ≤ 122))) (fun _ => ?_) (fun h => absurd (h.symm.trans hb7) (by decide))
    refine go_seq fun K9 hK9 => ?_
    refine q_reg [] [(2, .bool true)] ((True) ∧ True) hA H ⟨trivial, trivial⟩ fun a w10 hA H hG => ?_
    refine hK9 _ _ ?_
    refine go_ret_ ?_
    refine ret_one 2 (.bool true) hA ?_
    exact ans_b (by rw [Bool.eq_iff_iff, letB_iff]; unfold letP; simp only [Bool.and_eq_true, Bool.or_eq_true, Bool.and_eq_false_iff, Bool.or_eq_false_iff, Bool.not_eq_true', Bool.not_eq_false', decide_eq_true_eq, decide_eq_false_iff_not, beq_iff_eq, beq_eq_false_iff_ne, ne_eq, Bool.true_eq, Bool.false_eq, Bool.false_eq_true, iff_false, iff_true, true_iff, false_iff]; omega) H.below
  · have hhb7 := (aF hb7).imp (fun h => of_decide_eq_false h) (fun h => of_decide_eq_false h)
    refine q_reg [] [(0, .int .i32 r), (3, .bool ((decide ((65 : Int) ≤ r)) && (decide (r ≤ 90))))] ((True) ∧ (True) ∧ (True) ∧ ((decide ((65 : Int) ≤ r)) = true → True) ∧ ((decide ((65 : Int) ≤ r)) = true → True) ∧ (True) ∧ (True) ∧ True) hA H ⟨trivial, trivial, trivial, fun _ => trivial, fun _ => trivial, trivial, trivial, trivial⟩ fun a w11 hA H hG => ?_
    refine hK4 _ _ ?_
    refine go_cond hA (.tmp 3) ((decide ((65 : Int) ≤ r)) && (decide (r ≤ 90))) (fun hb12 => ?_) (fun hb12 => ?_)
    · have hhb12 := (⟨of_decide_eq_true ((aT hb12).1), of_decide_eq_true ((aT hb12).2)⟩ : _ ∧ _)
      refine go_seq fun K13 hK13 => ?_
      refine q_reg [] [(2, .bool true)] ((True) ∧ True) hA H ⟨trivial, trivial⟩ fun a w14 hA H hG => ?_
      refine hK13 _ _ ?_
      refine go_ret_ ?_
      refine ret_one 2 (.bool true) hA ?_
      exact ans_b (by rw [Bool.eq_iff_iff, letB_iff]; unfold letP; simp only [Bool.and_eq_true, Bool.or_eq_true, Bool.and_eq_false_iff, Bool.or_eq_false_iff, Bool.not_eq_true', Bool.not_eq_false', decide_eq_true_eq, decide_eq_false_iff_not, beq_iff_eq, beq_eq_false_iff_ne, ne_eq, Bool.true_eq, Bool.false_eq, Bool.false_eq_true, iff_false, iff_true, true_iff, false_iff]; omega) H.below
    · have hhb12 := (aF hb12).imp (fun h => of_decide_eq_false h) (fun h => of_decide_eq_false h)
      refine go_seq fun K15 hK15 => ?_
      refine q_reg [] [(0, .int .i32 r), (16, .bool ((decide ((192 : Int) ≤ r)) && (decide (r ≤ 591))))] ((True) ∧ (True) ∧ (True) ∧ ((decide ((192 : Int) ≤ r)) = true → True) ∧ ((decide ((192 : Int) ≤ r)) = true → True) ∧ (True) ∧ (True) ∧ True) hA H ⟨trivial, trivial, trivial, fun _ => trivial, fun _ => trivial, trivial, trivial, trivial⟩ fun a w16 hA H hG => ?_
      refine hK15 _ _ ?_
      refine go_cond hA (.tmp 16) ((decide ((192 : Int) ≤ r)) && (decide (r ≤ 591))) (fun hb17 => ?_) (fun hb17 => ?_)
      · have hhb17 := (⟨of_decide_eq_true ((aT hb17).1), of_decide_eq_true ((aT hb17).2)⟩ : _ ∧ _)
        refine go_seq fun K18 hK18 => ?_
        refine q_reg [] [(2, .bool ((!decide (r = 215)) && (!decide (r = 247))))] ((True) ∧ (True) ∧ (True) ∧ ((!decide (r = 215)) = true → True) ∧ ((!decide (r = 215)) = true → True) ∧ (True) ∧ (True) ∧ True) hA H ⟨trivial, trivial, trivial, fun _ => trivial, fun _ => trivial, trivial, trivial, trivial⟩ fun a w19 hA H hG => ?_
        refine hK18 _ _ ?_
        refine go_ret_ ?_
        refine ret_one 2 (.bool ((!decide (r = 215)) && (!decide (r = 247)))) hA ?_
        exact ans_b (by rw [Bool.eq_iff_iff, letB_iff]; unfold letP; simp only [Bool.and_eq_true, Bool.or_eq_true, Bool.and_eq_false_iff, Bool.or_eq_false_iff, Bool.not_eq_true', Bool.not_eq_false', decide_eq_true_eq, decide_eq_false_iff_not, beq_iff_eq, beq_eq_false_iff_ne, ne_eq, Bool.true_eq, Bool.false_eq, Bool.false_eq_true, iff_false, iff_true, true_iff, false_iff]; omega) H.below
      · have hhb17 := (aF hb17).imp (fun h => of_decide_eq_false h) (fun h => of_decide_eq_false h)
        refine go_seq fun K20 hK20 => ?_
        refine q_reg [] [(0, .int .i32 r), (29, .bool ((decide ((913 : Int) ≤ r)) && (decide (r ≤ 969))))] ((True) ∧ (True) ∧ (True) ∧ ((decide ((913 : Int) ≤ r)) = true → True) ∧ ((decide ((913 : Int) ≤ r)) = true → True) ∧ (True) ∧ (True) ∧ True) hA H ⟨trivial, trivial, trivial, fun _ => trivial, fun _ => trivial, trivial, trivial, trivial⟩ fun a w21 hA H hG => ?_
        refine hK20 _ _ ?_
        refine go_cond hA (.tmp 29) ((decide ((913 : Int) ≤ r)) && (decide (r ≤ 969))) (fun hb22 => ?_) (fun hb22 => ?_)
        · have hhb22 := (⟨of_decide_eq_true ((aT hb22).1), of_decide_eq_true ((aT hb22).2)⟩ : _ ∧ _)
          refine go_seq fun K23 hK23 => ?_
          refine q_reg [] [(2, .bool (!decide (r = 930)))] ((True) ∧ (True) ∧ (True) ∧ True) hA H ⟨trivial, trivial, trivial, trivial⟩ fun a w24 hA H hG => ?_
          refine hK23 _ _ ?_
          refine go_ret_ ?_
          refine ret_one 2 (.bool (!decide (r = 930))) hA ?_
          exact ans_b (by rw [Bool.eq_iff_iff, letB_iff]; unfold letP; simp only [Bool.and_eq_true, Bool.or_eq_true, Bool.and_eq_false_iff, Bool.or_eq_false_iff, Bool.not_eq_true', Bool.not_eq_false', decide_eq_true_eq, decide_eq_false_iff_not, beq_iff_eq, beq_eq_false_iff_ne, ne_eq, Bool.true_eq, Bool.false_eq, Bool.false_eq_true, iff_false, iff_true, true_iff, false_iff]; omega) H.below
        · have hhb22 := (aF hb22).imp (fun h => of_decide_eq_false h) (fun h => of_decide_eq_false h)
          refine go_skip ?_
          refine hK3 _ _ ?_
          refine go_seq fun K25 hK25 => ?_
          refine q_reg [] [(2, .bool ((decide ((1040 : Int) ≤ r)) && (decide (r ≤ 1103))))] ((True) ∧ (True) ∧ (True) ∧ ((decide ((1040 : Int) ≤ r)) = true → True) ∧ ((decide ((1040 : Int) ≤ r)) = true → True) ∧ (True) ∧ (True) ∧ True) hA H ⟨trivial, trivial, trivial, fun _ => trivial, fun _ => trivial, trivial, trivial, trivial⟩ fun a w26 hA H hG => ?_
          refine hK25 _ _ ?_
          refine go_ret_ ?_
          refine ret_one 2 (.bool ((decide ((1040 : Int) ≤ r)) && (decide (r ≤ 1103)))) hA ?_
          exact ans_b (by rw [Bool.eq_iff_iff, letB_iff]; unfold letP; simp only [Bool.and_eq_true, Bool.or_eq_true, Bool.and_eq_false_iff, Bool.or_eq_false_iff, Bool.not_eq_true', Bool.not_eq_false', decide_eq_true_eq, decide_eq_false_iff_not, beq_iff_eq, beq_eq_false_iff_ne, ne_eq, Bool.true_eq, Bool.false_eq, Bool.false_eq_true, iff_false, iff_true, true_iff, false_iff]; omega) H.below

set_option maxRecDepth 100000 in
set_option maxHeartbeats 1000000 in
theorem mark_any (r : Int) (w : World) :
  Calls Try.prog 23 [.int .i32 r].toArray w (Ans (.bool (markB r)) w) := by
  refine enter Try.f23 21 Try.func23 fun a hA => ?_
  replace hA := env_sub [(0, .int .i32 r)] hA
  have H := Fr.start (org w)
  refine go_seq fun K1 hK1 => ?_
  refine q_reg [] [(0, .int .i32 r)] ((True) ∧ True) hA H ⟨trivial, trivial⟩ fun a w2 hA H hG => ?_
  refine hK1 _ _ ?_
  refine go_seq fun K3 hK3 => ?_
  refine q_reg [] [(2, .bool ((((decide (r = 10)) || ((decide ((43 : Int) ≤ r)) && (decide (r ≤ 47)))) || (decide (r = 58))) || (decide (r = 124))))] ((True) ∧ (True) ∧ (True) ∧ ((decide (r = 10)) = false → True) ∧ ((decide (r = 10)) = false → True) ∧ ((decide (r = 10)) = false → True) ∧ ((decide (r = 10)) = false → (decide ((43 : Int) ≤ r)) = true → True) ∧ ((decide (r = 10)) = false → (decide ((43 : Int) ≤ r)) = true → True) ∧ ((decide (r = 10)) = false → True) ∧ (True) ∧ (True) ∧ (((decide (r = 10)) || ((decide ((43 : Int) ≤ r)) && (decide (r ≤ 47)))) = false → True) ∧ (((decide (r = 10)) || ((decide ((43 : Int) ≤ r)) && (decide (r ≤ 47)))) = false → True) ∧ (True) ∧ (True) ∧ ((((decide (r = 10)) || ((decide ((43 : Int) ≤ r)) && (decide (r ≤ 47)))) || (decide (r = 58))) = false → True) ∧ ((((decide (r = 10)) || ((decide ((43 : Int) ≤ r)) && (decide (r ≤ 47)))) || (decide (r = 58))) = false → True) ∧ (True) ∧ (True) ∧ True) hA H ⟨trivial, trivial, trivial, fun _ => trivial, fun _ => trivial, fun _ => trivial, fun _ _ => trivial, fun _ _ => trivial, fun _ => trivial, trivial, trivial, fun _ => trivial, fun _ => trivial, trivial, trivial, fun _ => trivial, fun _ => trivial, trivial, trivial, trivial⟩ fun a w4 hA H hG => ?_
  refine hK3 _ _ ?_
  refine go_ret_ ?_
  refine ret_one 2 (.bool ((((decide (r = 10)) || ((decide ((43 : Int) ≤ r)) && (decide (r ≤ 47)))) || (decide (r = 58))) || (decide (r = 124)))) hA ?_
  exact ans_b (by unfold markB; rw [Bool.eq_iff_iff]; simp only [Bool.and_eq_true, Bool.or_eq_true, Bool.and_eq_false_iff, Bool.or_eq_false_iff, Bool.not_eq_true', Bool.not_eq_false', decide_eq_true_eq, decide_eq_false_iff_not, beq_iff_eq, beq_eq_false_iff_ne, ne_eq, Bool.true_eq, Bool.false_eq]; omega) H.below

set_option maxRecDepth 100000 in
set_option maxHeartbeats 1000000 in
theorem class_any (r : Int) (w : World) :
  Calls Try.prog 17 [.int .i32 r].toArray w (Ans (.int .i64 (cls r)) w) := by
  refine enter Try.f17 25 Try.func17 fun a hA => ?_
  replace hA := env_sub [(0, .int .i32 r)] hA
  have H := Fr.start (org w)
  refine go_seq fun K1 hK1 => ?_
  refine q_reg [] [(0, .int .i32 r)] ((True) ∧ True) hA H ⟨trivial, trivial⟩ fun a w2 hA H hG => ?_
  refine hK1 _ _ ?_
  refine go_seq fun K3 hK3 => ?_
  refine go_block 0 ?_
  refine go_seq fun K4 hK4 => ?_
  refine q_reg [] [(0, .int .i32 r), (3, .bool (decide (r = 32)))] ((True) ∧ (True) ∧ (True) ∧ True) hA H ⟨trivial, trivial, trivial, trivial⟩ fun a w5 hA H hG => ?_
  refine hK4 _ _ ?_
  refine go_cond hA (.tmp 3) (decide (r = 32)) (fun hb6 => ?_) (fun hb6 => ?_)
  · have hhb6 := of_decide_eq_true hb6
    refine go_seq fun K7 hK7 => ?_
    refine q_reg [] [(2, .int .i64 4)] ((True) ∧ True) hA H ⟨trivial, trivial⟩ fun a w8 hA H hG => ?_
    refine hK7 _ _ ?_
    refine go_ret_ ?_
    refine ret_one 2 (.int .i64 4) hA ?_
    exact ans_i (by unfold cls letP; (repeat' split) <;> omega) H.below
  · have hhb6 := of_decide_eq_false hb6
    refine go_seq fun K9 hK9 => ?_
    refine q_reg [] [(0, .int .i32 r), (6, .bool ((decide ((48 : Int) ≤ r)) && (decide (r ≤ 57))))] ((True) ∧ (True) ∧ (True) ∧ ((decide ((48 : Int) ≤ r)) = true → True) ∧ ((decide ((48 : Int) ≤ r)) = true → True) ∧ (True) ∧ (True) ∧ True) hA H ⟨trivial, trivial, trivial, fun _ => trivial, fun _ => trivial, trivial, trivial, trivial⟩ fun a w10 hA H hG => ?_
    refine hK9 _ _ ?_
    refine go_cond hA (.tmp 6) ((decide ((48 : Int) ≤ r)) && (decide (r ≤ 57))) (fun hb11 => ?_) (fun hb11 => ?_)
    · have hhb11 := (⟨of_decide_eq_true ((aT hb11).1), of_decide_eq_true ((aT hb11).2)⟩ : _ ∧ _)
      refine go_seq fun K12 hK12 => ?_
      refine q_reg [] [(2, .int .i64 2)] ((True) ∧ True) hA H ⟨trivial, trivial⟩ fun a w13 hA H hG => ?_
      refine hK12 _ _ ?_
      refine go_ret_ ?_
      refine ret_one 2 (.int .i64 2) hA ?_
      exact ans_i (by unfold cls letP; (repeat' split) <;> omega) H.below
    · have hhb11 := (aF hb11).imp (fun h => of_decide_eq_false h) (fun h => of_decide_eq_false h)
      refine go_seq fun K14 hK14 => ?_
      refine go_seq fun K15 hK15 => ?_
      refine q_reg [] [(0, .int .i32 r), (13, .bool (decide (r = 95)))] ((True) ∧ (True) ∧ (True) ∧ True) hA H ⟨trivial, trivial, trivial, trivial⟩ fun a w16 hA H hG => ?_
      refine hK15 _ _ ?_
      refine go_cond hA (.tmp 13) (decide (r = 95)) (fun hb17 => ?_) (fun hb17 => ?_)
      · have hhb17 := of_decide_eq_true hb17
        refine go_skip ?_
        refine hK14 _ _ ?_
        refine go_cond hA (.tmp 13) (decide (r = 95)) (fun _ => ?_) (fun h => absurd (h.symm.trans hb17) (by decide))
        refine go_seq fun K19 hK19 => ?_
        refine q_reg [] [(2, .int .i64 3)] ((True) ∧ True) hA H ⟨trivial, trivial⟩ fun a w20 hA H hG => ?_
        refine hK19 _ _ ?_
        refine go_ret_ ?_
        refine ret_one 2 (.int .i64 3) hA ?_
        exact ans_i (by unfold cls letP; (repeat' split) <;> omega) H.below
      · have hhb17 := of_decide_eq_false hb17
        refine q_reg [] [(0, .int .i32 r), (13, .bool ((decide ((8242 : Int) ≤ r)) && (decide (r ≤ 8244))))] ((True) ∧ (True) ∧ (True) ∧ ((decide ((8242 : Int) ≤ r)) = true → True) ∧ ((decide ((8242 : Int) ≤ r)) = true → True) ∧ (True) ∧ (True) ∧ True) hA H ⟨trivial, trivial, trivial, fun _ => trivial, fun _ => trivial, trivial, trivial, trivial⟩ fun a w21 hA H hG => ?_
        refine hK14 _ _ ?_
        refine go_cond hA (.tmp 13) ((decide ((8242 : Int) ≤ r)) && (decide (r ≤ 8244))) (fun hb22 => ?_) (fun hb22 => ?_)
        · have hhb22 := (⟨of_decide_eq_true ((aT hb22).1), of_decide_eq_true ((aT hb22).2)⟩ : _ ∧ _)
          refine go_seq fun K23 hK23 => ?_
          refine q_reg [] [(2, .int .i64 3)] ((True) ∧ True) hA H ⟨trivial, trivial⟩ fun a w24 hA H hG => ?_
          refine hK23 _ _ ?_
          refine go_ret_ ?_
          refine ret_one 2 (.int .i64 3) hA ?_
          exact ans_i (by unfold cls letP; (repeat' split) <;> omega) H.below
        · have hhb22 := (aF hb22).imp (fun h => of_decide_eq_false h) (fun h => of_decide_eq_false h)
          refine go_seq fun K25 hK25 => ?_
          refine q_reg [(24, .bool (letB r))] [(22, .bool (letB r))] ((True) ∧ (Callable Try.prog 25 ∧ CallOk Try.prog (On w21) 25 [.int .i32 r].toArray (.bool (letB r))) ∧ (True) ∧ True) hA H ⟨trivial, ⟨callable_of, callOk_of fun w hw => by exact letter_any r w⟩, trivial, trivial⟩ fun a w26 hA H hG => ?_
          refine hK25 _ _ ?_
          refine go_cond hA (.tmp 22) (letB r) (fun hb27 => ?_) (fun hb27 => ?_)
          · have hhb27 := hb27
            refine go_seq fun K28 hK28 => ?_
            refine q_reg [] [(2, .int .i64 1)] ((True) ∧ True) hA H ⟨trivial, trivial⟩ fun a w29 hA H hG => ?_
            refine hK28 _ _ ?_
            refine go_ret_ ?_
            refine ret_one 2 (.int .i64 1) hA ?_
            exact ans_i (by simp only [letB_iff, letB_niff] at hhb27; unfold letP at hhb27; unfold cls letP; (repeat' split) <;> omega) H.below
          · have hhb27 := hb27
            refine go_skip ?_
            refine hK3 _ _ ?_
            refine go_seq fun K30 hK30 => ?_
            refine q_reg [] [(2, .int .i64 0)] ((True) ∧ True) hA H ⟨trivial, trivial⟩ fun a w31 hA H hG => ?_
            refine hK30 _ _ ?_
            refine go_ret_ ?_
            refine ret_one 2 (.int .i64 0) hA ?_
            exact ans_i (by simp only [letB_iff, letB_niff] at hhb27; unfold letP at hhb27; unfold cls letP; (repeat' split) <;> omega) H.below

set_option maxRecDepth 100000 in
set_option maxHeartbeats 1000000 in
theorem refClass_any (r : Int) (w : World) :
  Calls Try.prog 18 [.int .i64 r].toArray w (Ans (.int .i64 (cls r)) w) := by
  refine enter Try.f18 71 Try.func18 fun a hA => ?_
  replace hA := env_sub [(0, .int .i64 r)] hA
  have H := Fr.start (org w)
  refine go_seq fun K1 hK1 => ?_
  refine q_reg [] [(0, .int .i64 r)] ((True) ∧ True) hA H ⟨trivial, trivial⟩ fun a w2 hA H hG => ?_
  refine hK1 _ _ ?_
  refine go_seq fun K3 hK3 => ?_
  refine go_seq fun K4 hK4 => ?_
  refine q_reg [] [(0, .int .i64 r), (52, .bool ((((((decide ((97 : Int) ≤ r)) && (decide (r ≤ 122))) || ((decide ((65 : Int) ≤ r)) && (decide (r ≤ 90)))) || ((((decide ((192 : Int) ≤ r)) && (decide (r ≤ 591))) && (!decide (r = 215))) && (!decide (r = 247)))) || (((decide ((913 : Int) ≤ r)) && (decide (r ≤ 969))) && (!decide (r = 930)))) || ((decide ((1040 : Int) ≤ r)) && (decide (r ≤ 1103)))))] ((True) ∧ (True) ∧ (True) ∧ ((decide ((97 : Int) ≤ r)) = true → True) ∧ ((decide ((97 : Int) ≤ r)) = true → True) ∧ (True) ∧ (True) ∧ (((decide ((97 : Int) ≤ r)) && (decide (r ≤ 122))) = false → True) ∧ (((decide ((97 : Int) ≤ r)) && (decide (r ≤ 122))) = false → True) ∧ (((decide ((97 : Int) ≤ r)) && (decide (r ≤ 122))) = false → True) ∧ (((decide ((97 : Int) ≤ r)) && (decide (r ≤ 122))) = false → (decide ((65 : Int) ≤ r)) = true → True) ∧ (((decide ((97 : Int) ≤ r)) && (decide (r ≤ 122))) = false → (decide ((65 : Int) ≤ r)) = true → True) ∧ (((decide ((97 : Int) ≤ r)) && (decide (r ≤ 122))) = false → True) ∧ (True) ∧ (True) ∧ ((((decide ((97 : Int) ≤ r)) && (decide (r ≤ 122))) || ((decide ((65 : Int) ≤ r)) && (decide (r ≤ 90)))) = false → True) ∧ ((((decide ((97 : Int) ≤ r)) && (decide (r ≤ 122))) || ((decide ((65 : Int) ≤ r)) && (decide (r ≤ 90)))) = false → True) ∧ ((((decide ((97 : Int) ≤ r)) && (decide (r ≤ 122))) || ((decide ((65 : Int) ≤ r)) && (decide (r ≤ 90)))) = false → True) ∧ ((((decide ((97 : Int) ≤ r)) && (decide (r ≤ 122))) || ((decide ((65 : Int) ≤ r)) && (decide (r ≤ 90)))) = false → (decide ((192 : Int) ≤ r)) = true → True) ∧ ((((decide ((97 : Int) ≤ r)) && (decide (r ≤ 122))) || ((decide ((65 : Int) ≤ r)) && (decide (r ≤ 90)))) = false → (decide ((192 : Int) ≤ r)) = true → True) ∧ ((((decide ((97 : Int) ≤ r)) && (decide (r ≤ 122))) || ((decide ((65 : Int) ≤ r)) && (decide (r ≤ 90)))) = false → True) ∧ ((((decide ((97 : Int) ≤ r)) && (decide (r ≤ 122))) || ((decide ((65 : Int) ≤ r)) && (decide (r ≤ 90)))) = false → True) ∧ ((((decide ((97 : Int) ≤ r)) && (decide (r ≤ 122))) || ((decide ((65 : Int) ≤ r)) && (decide (r ≤ 90)))) = false → ((decide ((192 : Int) ≤ r)) && (decide (r ≤ 591))) = true → True) ∧ ((((decide ((97 : Int) ≤ r)) && (decide (r ≤ 122))) || ((decide ((65 : Int) ≤ r)) && (decide (r ≤ 90)))) = false → ((decide ((192 : Int) ≤ r)) && (decide (r ≤ 591))) = true → True) ∧ ((((decide ((97 : Int) ≤ r)) && (decide (r ≤ 122))) || ((decide ((65 : Int) ≤ r)) && (decide (r ≤ 90)))) = false → True) ∧ ((((decide ((97 : Int) ≤ r)) && (decide (r ≤ 122))) || ((decide ((65 : Int) ≤ r)) && (decide (r ≤ 90)))) = false → True) ∧ ((((decide ((97 : Int) ≤ r)) && (decide (r ≤ 122))) || ((decide ((65 : Int) ≤ r)) && (decide (r ≤ 90)))) = false → (((decide ((192 : Int) ≤ r)) && (decide (r ≤ 591))) && (!decide (r = 215))) = true → True) ∧ ((((decide ((97 : Int) ≤ r)) && (decide (r ≤ 122))) || ((decide ((65 : Int) ≤ r)) && (decide (r ≤ 90)))) = false → (((decide ((192 : Int) ≤ r)) && (decide (r ≤ 591))) && (!decide (r = 215))) = true → True) ∧ ((((decide ((97 : Int) ≤ r)) && (decide (r ≤ 122))) || ((decide ((65 : Int) ≤ r)) && (decide (r ≤ 90)))) = false → True) ∧ (True) ∧ (True) ∧ (((((decide ((97 : Int) ≤ r)) && (decide (r ≤ 122))) || ((decide ((65 : Int) ≤ r)) && (decide (r ≤ 90)))) || ((((decide ((192 : Int) ≤ r)) && (decide (r ≤ 591))) && (!decide (r = 215))) && (!decide (r = 247)))) = false → True) ∧ (((((decide ((97 : Int) ≤ r)) && (decide (r ≤ 122))) || ((decide ((65 : Int) ≤ r)) && (decide (r ≤ 90)))) || ((((decide ((192 : Int) ≤ r)) && (decide (r ≤ 591))) && (!decide (r = 215))) && (!decide (r = 247)))) = false → True) ∧ (((((decide ((97 : Int) ≤ r)) && (decide (r ≤ 122))) || ((decide ((65 : Int) ≤ r)) && (decide (r ≤ 90)))) || ((((decide ((192 : Int) ≤ r)) && (decide (r ≤ 591))) && (!decide (r = 215))) && (!decide (r = 247)))) = false → True) ∧ (((((decide ((97 : Int) ≤ r)) && (decide (r ≤ 122))) || ((decide ((65 : Int) ≤ r)) && (decide (r ≤ 90)))) || ((((decide ((192 : Int) ≤ r)) && (decide (r ≤ 591))) && (!decide (r = 215))) && (!decide (r = 247)))) = false → (decide ((913 : Int) ≤ r)) = true → True) ∧ (((((decide ((97 : Int) ≤ r)) && (decide (r ≤ 122))) || ((decide ((65 : Int) ≤ r)) && (decide (r ≤ 90)))) || ((((decide ((192 : Int) ≤ r)) && (decide (r ≤ 591))) && (!decide (r = 215))) && (!decide (r = 247)))) = false → (decide ((913 : Int) ≤ r)) = true → True) ∧ (((((decide ((97 : Int) ≤ r)) && (decide (r ≤ 122))) || ((decide ((65 : Int) ≤ r)) && (decide (r ≤ 90)))) || ((((decide ((192 : Int) ≤ r)) && (decide (r ≤ 591))) && (!decide (r = 215))) && (!decide (r = 247)))) = false → True) ∧ (((((decide ((97 : Int) ≤ r)) && (decide (r ≤ 122))) || ((decide ((65 : Int) ≤ r)) && (decide (r ≤ 90)))) || ((((decide ((192 : Int) ≤ r)) && (decide (r ≤ 591))) && (!decide (r = 215))) && (!decide (r = 247)))) = false → True) ∧ (((((decide ((97 : Int) ≤ r)) && (decide (r ≤ 122))) || ((decide ((65 : Int) ≤ r)) && (decide (r ≤ 90)))) || ((((decide ((192 : Int) ≤ r)) && (decide (r ≤ 591))) && (!decide (r = 215))) && (!decide (r = 247)))) = false → ((decide ((913 : Int) ≤ r)) && (decide (r ≤ 969))) = true → True) ∧ (((((decide ((97 : Int) ≤ r)) && (decide (r ≤ 122))) || ((decide ((65 : Int) ≤ r)) && (decide (r ≤ 90)))) || ((((decide ((192 : Int) ≤ r)) && (decide (r ≤ 591))) && (!decide (r = 215))) && (!decide (r = 247)))) = false → ((decide ((913 : Int) ≤ r)) && (decide (r ≤ 969))) = true → True) ∧ (((((decide ((97 : Int) ≤ r)) && (decide (r ≤ 122))) || ((decide ((65 : Int) ≤ r)) && (decide (r ≤ 90)))) || ((((decide ((192 : Int) ≤ r)) && (decide (r ≤ 591))) && (!decide (r = 215))) && (!decide (r = 247)))) = false → True) ∧ (True) ∧ (True) ∧ ((((((decide ((97 : Int) ≤ r)) && (decide (r ≤ 122))) || ((decide ((65 : Int) ≤ r)) && (decide (r ≤ 90)))) || ((((decide ((192 : Int) ≤ r)) && (decide (r ≤ 591))) && (!decide (r = 215))) && (!decide (r = 247)))) || (((decide ((913 : Int) ≤ r)) && (decide (r ≤ 969))) && (!decide (r = 930)))) = false → True) ∧ ((((((decide ((97 : Int) ≤ r)) && (decide (r ≤ 122))) || ((decide ((65 : Int) ≤ r)) && (decide (r ≤ 90)))) || ((((decide ((192 : Int) ≤ r)) && (decide (r ≤ 591))) && (!decide (r = 215))) && (!decide (r = 247)))) || (((decide ((913 : Int) ≤ r)) && (decide (r ≤ 969))) && (!decide (r = 930)))) = false → True) ∧ ((((((decide ((97 : Int) ≤ r)) && (decide (r ≤ 122))) || ((decide ((65 : Int) ≤ r)) && (decide (r ≤ 90)))) || ((((decide ((192 : Int) ≤ r)) && (decide (r ≤ 591))) && (!decide (r = 215))) && (!decide (r = 247)))) || (((decide ((913 : Int) ≤ r)) && (decide (r ≤ 969))) && (!decide (r = 930)))) = false → True) ∧ ((((((decide ((97 : Int) ≤ r)) && (decide (r ≤ 122))) || ((decide ((65 : Int) ≤ r)) && (decide (r ≤ 90)))) || ((((decide ((192 : Int) ≤ r)) && (decide (r ≤ 591))) && (!decide (r = 215))) && (!decide (r = 247)))) || (((decide ((913 : Int) ≤ r)) && (decide (r ≤ 969))) && (!decide (r = 930)))) = false → (decide ((1040 : Int) ≤ r)) = true → True) ∧ ((((((decide ((97 : Int) ≤ r)) && (decide (r ≤ 122))) || ((decide ((65 : Int) ≤ r)) && (decide (r ≤ 90)))) || ((((decide ((192 : Int) ≤ r)) && (decide (r ≤ 591))) && (!decide (r = 215))) && (!decide (r = 247)))) || (((decide ((913 : Int) ≤ r)) && (decide (r ≤ 969))) && (!decide (r = 930)))) = false → (decide ((1040 : Int) ≤ r)) = true → True) ∧ ((((((decide ((97 : Int) ≤ r)) && (decide (r ≤ 122))) || ((decide ((65 : Int) ≤ r)) && (decide (r ≤ 90)))) || ((((decide ((192 : Int) ≤ r)) && (decide (r ≤ 591))) && (!decide (r = 215))) && (!decide (r = 247)))) || (((decide ((913 : Int) ≤ r)) && (decide (r ≤ 969))) && (!decide (r = 930)))) = false → True) ∧ (True) ∧ True) hA H ⟨trivial, trivial, trivial, fun _ => trivial, fun _ => trivial, trivial, trivial, fun _ => trivial, fun _ => trivial, fun _ => trivial, fun _ _ => trivial, fun _ _ => trivial, fun _ => trivial, trivial, trivial, fun _ => trivial, fun _ => trivial, fun _ => trivial, fun _ _ => trivial, fun _ _ => trivial, fun _ => trivial, fun _ => trivial, fun _ _ => trivial, fun _ _ => trivial, fun _ => trivial, fun _ => trivial, fun _ _ => trivial, fun _ _ => trivial, fun _ => trivial, trivial, trivial, fun _ => trivial, fun _ => trivial, fun _ => trivial, fun _ _ => trivial, fun _ _ => trivial, fun _ => trivial, fun _ => trivial, fun _ _ => trivial, fun _ _ => trivial, fun _ => trivial, trivial, trivial, fun _ => trivial, fun _ => trivial, fun _ => trivial, fun _ _ => trivial, fun _ _ => trivial, fun _ => trivial, trivial, trivial⟩ fun a w5 hA H hG => ?_
  refine hK4 _ _ ?_
  refine go_cond hA (.tmp 52) ((((((decide ((97 : Int) ≤ r)) && (decide (r ≤ 122))) || ((decide ((65 : Int) ≤ r)) && (decide (r ≤ 90)))) || ((((decide ((192 : Int) ≤ r)) && (decide (r ≤ 591))) && (!decide (r = 215))) && (!decide (r = 247)))) || (((decide ((913 : Int) ≤ r)) && (decide (r ≤ 969))) && (!decide (r = 930)))) || ((decide ((1040 : Int) ≤ r)) && (decide (r ≤ 1103)))) (fun hb6 => ?_) (fun hb6 => ?_)
  · have hhb6 := (oT hb6).imp (fun h => (oT h).imp (fun h => (oT h).imp (fun h => (oT h).imp (fun h => (⟨of_decide_eq_true ((aT h).1), of_decide_eq_true ((aT h).2)⟩ : _ ∧ _)) (fun h => (⟨of_decide_eq_true ((aT h).1), of_decide_eq_true ((aT h).2)⟩ : _ ∧ _))) (fun h => (⟨(⟨(⟨of_decide_eq_true ((aT ((aT ((aT h).1)).1)).1), of_decide_eq_true ((aT ((aT ((aT h).1)).1)).2)⟩ : _ ∧ _), of_decide_eq_false (nT ((aT ((aT h).1)).2))⟩ : _ ∧ _), of_decide_eq_false (nT ((aT h).2))⟩ : _ ∧ _))) (fun h => (⟨(⟨of_decide_eq_true ((aT ((aT h).1)).1), of_decide_eq_true ((aT ((aT h).1)).2)⟩ : _ ∧ _), of_decide_eq_false (nT ((aT h).2))⟩ : _ ∧ _))) (fun h => (⟨of_decide_eq_true ((aT h).1), of_decide_eq_true ((aT h).2)⟩ : _ ∧ _))
    refine go_seq fun K7 hK7 => ?_
    refine q_reg [] [(2, .int .i64 1)] ((True) ∧ True) hA H ⟨trivial, trivial⟩ fun a w8 hA H hG => ?_
    refine hK7 _ _ ?_
    refine go_ret_ ?_
    refine ret_one 2 (.int .i64 1) hA ?_
    exact ans_i (by unfold cls letP; (repeat' split) <;> omega) H.below
  · have hhb6 := (⟨(⟨(⟨(⟨(aF ((oF ((oF ((oF ((oF hb6).1)).1)).1)).1)).imp (fun h => of_decide_eq_false h) (fun h => of_decide_eq_false h), (aF ((oF ((oF ((oF ((oF hb6).1)).1)).1)).2)).imp (fun h => of_decide_eq_false h) (fun h => of_decide_eq_false h)⟩ : _ ∧ _), (aF ((oF ((oF ((oF hb6).1)).1)).2)).imp (fun h => (aF h).imp (fun h => (aF h).imp (fun h => of_decide_eq_false h) (fun h => of_decide_eq_false h)) (fun h => of_decide_eq_true (nF h))) (fun h => of_decide_eq_true (nF h))⟩ : _ ∧ _), (aF ((oF ((oF hb6).1)).2)).imp (fun h => (aF h).imp (fun h => of_decide_eq_false h) (fun h => of_decide_eq_false h)) (fun h => of_decide_eq_true (nF h))⟩ : _ ∧ _), (aF ((oF hb6).2)).imp (fun h => of_decide_eq_false h) (fun h => of_decide_eq_false h)⟩ : _ ∧ _)
    refine go_skip ?_
    refine hK3 _ _ ?_
    refine go_seq fun K9 hK9 => ?_
    refine go_seq fun K10 hK10 => ?_
    refine q_reg [] [(0, .int .i64 r), (58, .bool ((decide ((48 : Int) ≤ r)) && (decide (r ≤ 57))))] ((True) ∧ (True) ∧ (True) ∧ ((decide ((48 : Int) ≤ r)) = true → True) ∧ ((decide ((48 : Int) ≤ r)) = true → True) ∧ (True) ∧ True) hA H ⟨trivial, trivial, trivial, fun _ => trivial, fun _ => trivial, trivial, trivial⟩ fun a w11 hA H hG => ?_
    refine hK10 _ _ ?_
    refine go_cond hA (.tmp 58) ((decide ((48 : Int) ≤ r)) && (decide (r ≤ 57))) (fun hb12 => ?_) (fun hb12 => ?_)
    · have hhb12 := (⟨of_decide_eq_true ((aT hb12).1), of_decide_eq_true ((aT hb12).2)⟩ : _ ∧ _)
      refine go_seq fun K13 hK13 => ?_
      refine q_reg [] [(2, .int .i64 2)] ((True) ∧ True) hA H ⟨trivial, trivial⟩ fun a w14 hA H hG => ?_
      refine hK13 _ _ ?_
      refine go_ret_ ?_
      refine ret_one 2 (.int .i64 2) hA ?_
      exact ans_i (by unfold cls letP; (repeat' split) <;> omega) H.below
    · have hhb12 := (aF hb12).imp (fun h => of_decide_eq_false h) (fun h => of_decide_eq_false h)
      refine go_skip ?_
      refine hK9 _ _ ?_
      refine go_seq fun K15 hK15 => ?_
      refine go_seq fun K16 hK16 => ?_
      refine q_reg [] [(0, .int .i64 r), (68, .bool ((decide (r = 95)) || ((decide ((8242 : Int) ≤ r)) && (decide (r ≤ 8244)))))] ((True) ∧ (True) ∧ (True) ∧ ((decide (r = 95)) = false → True) ∧ ((decide (r = 95)) = false → True) ∧ ((decide (r = 95)) = false → True) ∧ ((decide (r = 95)) = false → (decide ((8242 : Int) ≤ r)) = true → True) ∧ ((decide (r = 95)) = false → (decide ((8242 : Int) ≤ r)) = true → True) ∧ ((decide (r = 95)) = false → True) ∧ (True) ∧ True) hA H ⟨trivial, trivial, trivial, fun _ => trivial, fun _ => trivial, fun _ => trivial, fun _ _ => trivial, fun _ _ => trivial, fun _ => trivial, trivial, trivial⟩ fun a w17 hA H hG => ?_
      refine hK16 _ _ ?_
      refine go_cond hA (.tmp 68) ((decide (r = 95)) || ((decide ((8242 : Int) ≤ r)) && (decide (r ≤ 8244)))) (fun hb18 => ?_) (fun hb18 => ?_)
      · have hhb18 := (oT hb18).imp (fun h => of_decide_eq_true h) (fun h => (⟨of_decide_eq_true ((aT h).1), of_decide_eq_true ((aT h).2)⟩ : _ ∧ _))
        refine go_seq fun K19 hK19 => ?_
        refine q_reg [] [(2, .int .i64 3)] ((True) ∧ True) hA H ⟨trivial, trivial⟩ fun a w20 hA H hG => ?_
        refine hK19 _ _ ?_
        refine go_ret_ ?_
        refine ret_one 2 (.int .i64 3) hA ?_
        exact ans_i (by unfold cls letP; (repeat' split) <;> omega) H.below
      · have hhb18 := (⟨of_decide_eq_false ((oF hb18).1), (aF ((oF hb18).2)).imp (fun h => of_decide_eq_false h) (fun h => of_decide_eq_false h)⟩ : _ ∧ _)
        refine go_skip ?_
        refine hK15 _ _ ?_
        refine go_seq fun K21 hK21 => ?_
        refine go_seq fun K22 hK22 => ?_
        refine q_reg [] [(70, .bool (decide (r = 32)))] ((True) ∧ (True) ∧ True) hA H ⟨trivial, trivial, trivial⟩ fun a w23 hA H hG => ?_
        refine hK22 _ _ ?_
        refine go_cond hA (.tmp 70) (decide (r = 32)) (fun hb24 => ?_) (fun hb24 => ?_)
        · have hhb24 := of_decide_eq_true hb24
          refine go_seq fun K25 hK25 => ?_
          refine q_reg [] [(2, .int .i64 4)] ((True) ∧ True) hA H ⟨trivial, trivial⟩ fun a w26 hA H hG => ?_
          refine hK25 _ _ ?_
          refine go_ret_ ?_
          refine ret_one 2 (.int .i64 4) hA ?_
          exact ans_i (by unfold cls letP; (repeat' split) <;> omega) H.below
        · have hhb24 := of_decide_eq_false hb24
          refine go_skip ?_
          refine hK21 _ _ ?_
          refine go_seq fun K27 hK27 => ?_
          refine q_reg [] [(2, .int .i64 0)] ((True) ∧ True) hA H ⟨trivial, trivial⟩ fun a w28 hA H hG => ?_
          refine hK27 _ _ ?_
          refine go_ret_ ?_
          refine ret_one 2 (.int .i64 0) hA ?_
          exact ans_i (by unfold cls letP; (repeat' split) <;> omega) H.below

end Go.Proofs.Ytbdgelipabndaaa
