/-
  Walks, written by program: WordClasses.
-/
import Derived.Test.YtbdgelipabndaaaProg
import Derived.Test.YtbdgelipabndaaaWalkL1
import Derived.Test.YtbdgelipabndaaaWordF
import Derived.Test.YtbdgelipabndaaaEngG
set_option linter.unusedSimpArgs false
set_option linter.unusedVariables false
namespace Go.Proofs.Ytbdgelipabndaaa
open Go.RowKit

set_option maxRecDepth 100000 in
set_option maxHeartbeats 1000000 in
theorem wordClasses_any (r : Int) (s : ByteArray) (w : World) (hr : -2147483648 ≤ r ∧ r ≤ 2147483647) :
  Calls Try.prog 6 [.int .i32 r, .string s].toArray w (Ans (.bool true) w) := by
  refine enter Try.f6 70 Try.func6 fun a hA => ?_
  replace hA := env_sub [(0, .int .i32 r), (1, .string s)] hA
  have H := Fr.start (org w)
  refine go_seq fun K1 hK1 => ?_
  refine q_reg [] [(0, .int .i32 r), (1, .string s)] ((True) ∧ True) hA H ⟨trivial, trivial⟩ fun a w2 hA H _ => ?_
  refine hK1 _ _ ?_
  refine go_seq fun K3 hK3 => ?_
  refine go_seq fun K4 hK4 => ?_
  refine q_reg [(11, .bool true)] [(0, .int .i32 r), (1, .string s), (17, .bool (decide ((3000 : Int) < (s.size : Int))))] ((Callable Try.prog 9 ∧ CallOk Try.prog (On w2) 9 [].toArray (.bool true)) ∧ (True) ∧ (True) ∧ ((false) = false → True) ∧ ((false) = false → True) ∧ ((false) = false → True) ∧ (True) ∧ True) hA H ⟨⟨callable_of, callOk_of fun w hw => by exact awake_any w⟩, trivial, trivial, fun _ => trivial, fun _ => trivial, fun _ => trivial, trivial, trivial⟩ fun a w5 hA H _ => ?_
  refine hK4 _ _ ?_
  refine go_cond hA (.tmp 17) (decide ((3000 : Int) < (s.size : Int))) (fun hb6 => ?_) (fun hb6 => ?_)
  · have hhb6 := of_decide_eq_true hb6
    refine go_seq fun K7 hK7 => ?_
    refine q_reg [(18, .bool true)] [(4, .bool true)] ((Callable Try.prog 9 ∧ CallOk Try.prog (On w5) 9 [].toArray (.bool true)) ∧ (True) ∧ True) hA H ⟨⟨callable_of, callOk_of fun w hw => by exact awake_any w⟩, trivial, trivial⟩ fun a w8 hA H _ => ?_
    refine hK7 _ _ ?_
    refine go_ret_ ?_
    refine ret_one 4 (.bool true) hA ?_
    exact ans_b (by first | rfl | (rw [name_eq s, (num_eq s).1, (num_eq s).2, (bad_eq s).1, (bad_eq s).2]; simp)) H.below
  · have hhb6 := of_decide_eq_false hb6
    refine go_skip ?_
    refine hK3 _ _ ?_
    refine go_seq fun K9 hK9 => ?_
    refine q_reg [(21, .tuple #[.int .i64 ((numB s).1), .bool ((numB s).2)])] [(0, .int .i32 r), (1, .string s), (5, .int .i64 ((numB s).1)), (6, .bool ((numB s).2))] ((True) ∧ (Callable Try.prog 13 ∧ CallOk Try.prog (On w5) 13 [.string s].toArray (.tuple #[.int .i64 ((numB s).1), .bool ((numB s).2)])) ∧ (True) ∧ (True) ∧ (True) ∧ (True) ∧ (True) ∧ True) hA H ⟨trivial, ⟨callable_of, callOk_of fun w hw => by exact number_any s w⟩, trivial, trivial, trivial, trivial, trivial, trivial⟩ fun a w10 hA H _ => ?_
    refine hK9 _ _ ?_
    refine go_seq fun K11 hK11 => ?_
    refine q_reg [(25, .int .i64 (refNum s))] [(0, .int .i32 r), (1, .string s), (5, .int .i64 ((numB s).1)), (6, .bool ((numB s).2)), (7, .int .i64 (refNum s))] ((True) ∧ (Callable Try.prog 14 ∧ CallOk Try.prog (On w10) 14 [.string s].toArray (.int .i64 (refNum s))) ∧ (True) ∧ True) hA H ⟨trivial, ⟨callable_of, callOk_of fun w hw => by exact refNumber_any s w⟩, trivial, trivial⟩ fun a w12 hA H _ => ?_
    refine hK11 _ _ ?_
    refine go_seq fun K13 hK13 => ?_
    refine q_reg [(28, .tuple #[.int .i64 ((badB s).1), .bool ((badB s).2)])] [(0, .int .i32 r), (1, .string s), (5, .int .i64 ((numB s).1)), (6, .bool ((numB s).2)), (7, .int .i64 (refNum s)), (8, .int .i64 ((badB s).1)), (9, .bool ((badB s).2))] ((True) ∧ (Callable Try.prog 15 ∧ CallOk Try.prog (On w12) 15 [.string s].toArray (.tuple #[.int .i64 ((badB s).1), .bool ((badB s).2)])) ∧ (True) ∧ (True) ∧ (True) ∧ (True) ∧ (True) ∧ True) hA H ⟨trivial, ⟨callable_of, callOk_of fun w hw => by exact bad_any s w⟩, trivial, trivial, trivial, trivial, trivial, trivial⟩ fun a w14 hA H _ => ?_
    refine hK13 _ _ ?_
    refine go_seq fun K15 hK15 => ?_
    refine q_reg [(32, .int .i64 (refBad s))] [(0, .int .i32 r), (1, .string s), (5, .int .i64 ((numB s).1)), (6, .bool ((numB s).2)), (7, .int .i64 (refNum s)), (8, .int .i64 ((badB s).1)), (9, .bool ((badB s).2)), (10, .int .i64 (refBad s))] ((True) ∧ (Callable Try.prog 16 ∧ CallOk Try.prog (On w14) 16 [.string s].toArray (.int .i64 (refBad s))) ∧ (True) ∧ True) hA H ⟨trivial, ⟨callable_of, callOk_of fun w hw => by exact refBad_any s w (by omega)⟩, trivial, trivial⟩ fun a w16 hA H _ => ?_
    refine hK15 _ _ ?_
    refine go_seq fun K17 hK17 => ?_
    refine q_reg [(34, .int .i64 (cls r)), (37, .int .i64 (cls r)), (41, .bool (nameB s)), (43, .bool (refNameL (classesR s))), (55, .int .i64 (max (refNum s) (0 : Int))), (67, .int .i64 (max (refBad s) (0 : Int)))] [(4, .bool ((((((decide (cls r = cls r)) && ((nameB s) == (refNameL (classesR s)))) && (((numB s).2) == (decide ((0 : Int) ≤ refNum s)))) && (decide ((numB s).1 = max (refNum s) (0 : Int)))) && (((badB s).2) == (decide ((0 : Int) ≤ refBad s)))) && (decide ((badB s).1 = max (refBad s) (0 : Int)))))] ((True) ∧ (Callable Try.prog 17 ∧ CallOk Try.prog (On w16) 17 [.int .i32 r].toArray (.int .i64 (cls r))) ∧ (True) ∧ (InR .i64 r) ∧ (Callable Try.prog 18 ∧ CallOk Try.prog (On w16) 18 [.int .i64 r].toArray (.int .i64 (cls r))) ∧ (True) ∧ (True) ∧ ((decide (cls r = cls r)) = true → True) ∧ ((decide (cls r = cls r)) = true → Callable Try.prog 11 ∧ CallOk Try.prog (On w16) 11 [.string s].toArray (.bool (nameB s))) ∧ ((decide (cls r = cls r)) = true → True) ∧ ((decide (cls r = cls r)) = true → Callable Try.prog 19 ∧ CallOk Try.prog (On w16) 19 [.string s].toArray (.bool (refNameL (classesR s)))) ∧ ((decide (cls r = cls r)) = true → Try.prog.underlying 4 = some .bool) ∧ (True) ∧ (True) ∧ (((decide (cls r = cls r)) && ((nameB s) == (refNameL (classesR s)))) = true → True) ∧ (((decide (cls r = cls r)) && ((nameB s) == (refNameL (classesR s)))) = true → True) ∧ (((decide (cls r = cls r)) && ((nameB s) == (refNameL (classesR s)))) = true → True) ∧ (((decide (cls r = cls r)) && ((nameB s) == (refNameL (classesR s)))) = true → Try.prog.underlying 4 = some .bool) ∧ (True) ∧ (True) ∧ ((((decide (cls r = cls r)) && ((nameB s) == (refNameL (classesR s)))) && (((numB s).2) == (decide ((0 : Int) ≤ refNum s)))) = true → True) ∧ ((((decide (cls r = cls r)) && ((nameB s) == (refNameL (classesR s)))) && (((numB s).2) == (decide ((0 : Int) ≤ refNum s)))) = true → True) ∧ ((((decide (cls r = cls r)) && ((nameB s) == (refNameL (classesR s)))) && (((numB s).2) == (decide ((0 : Int) ≤ refNum s)))) = true → ∀ ty w, (Builtin.max_ #[3, 3] ty [.int .i64 (refNum s), .int .i64 0].toArray).run Try.prog w = .ok (.int .i64 (max (refNum s) (0 : Int))) w) ∧ ((((decide (cls r = cls r)) && ((nameB s) == (refNameL (classesR s)))) && (((numB s).2) == (decide ((0 : Int) ≤ refNum s)))) = true → True) ∧ (True) ∧ (True) ∧ (((((decide (cls r = cls r)) && ((nameB s) == (refNameL (classesR s)))) && (((numB s).2) == (decide ((0 : Int) ≤ refNum s)))) && (decide ((numB s).1 = max (refNum s) (0 : Int)))) = true → True) ∧ (((((decide (cls r = cls r)) && ((nameB s) == (refNameL (classesR s)))) && (((numB s).2) == (decide ((0 : Int) ≤ refNum s)))) && (decide ((numB s).1 = max (refNum s) (0 : Int)))) = true → True) ∧ (((((decide (cls r = cls r)) && ((nameB s) == (refNameL (classesR s)))) && (((numB s).2) == (decide ((0 : Int) ≤ refNum s)))) && (decide ((numB s).1 = max (refNum s) (0 : Int)))) = true → True) ∧ (((((decide (cls r = cls r)) && ((nameB s) == (refNameL (classesR s)))) && (((numB s).2) == (decide ((0 : Int) ≤ refNum s)))) && (decide ((numB s).1 = max (refNum s) (0 : Int)))) = true → Try.prog.underlying 4 = some .bool) ∧ (True) ∧ (True) ∧ ((((((decide (cls r = cls r)) && ((nameB s) == (refNameL (classesR s)))) && (((numB s).2) == (decide ((0 : Int) ≤ refNum s)))) && (decide ((numB s).1 = max (refNum s) (0 : Int)))) && (((badB s).2) == (decide ((0 : Int) ≤ refBad s)))) = true → True) ∧ ((((((decide (cls r = cls r)) && ((nameB s) == (refNameL (classesR s)))) && (((numB s).2) == (decide ((0 : Int) ≤ refNum s)))) && (decide ((numB s).1 = max (refNum s) (0 : Int)))) && (((badB s).2) == (decide ((0 : Int) ≤ refBad s)))) = true → True) ∧ ((((((decide (cls r = cls r)) && ((nameB s) == (refNameL (classesR s)))) && (((numB s).2) == (decide ((0 : Int) ≤ refNum s)))) && (decide ((numB s).1 = max (refNum s) (0 : Int)))) && (((badB s).2) == (decide ((0 : Int) ≤ refBad s)))) = true → ∀ ty w, (Builtin.max_ #[3, 3] ty [.int .i64 (refBad s), .int .i64 0].toArray).run Try.prog w = .ok (.int .i64 (max (refBad s) (0 : Int))) w) ∧ ((((((decide (cls r = cls r)) && ((nameB s) == (refNameL (classesR s)))) && (((numB s).2) == (decide ((0 : Int) ≤ refNum s)))) && (decide ((numB s).1 = max (refNum s) (0 : Int)))) && (((badB s).2) == (decide ((0 : Int) ≤ refBad s)))) = true → True) ∧ (True) ∧ (True) ∧ True) hA H ⟨trivial, ⟨callable_of, callOk_of fun w hw => by exact class_any r w⟩, trivial, ⟨by omega, by omega⟩, ⟨callable_of, callOk_of fun w hw => by exact refClass_any r w⟩, trivial, trivial, fun _ => trivial, fun _ => ⟨callable_of, callOk_of fun w hw => by exact name_any s w⟩, fun _ => trivial, fun hg0 => by replace hg0 := of_decide_eq_true hg0; exact ⟨callable_of, callOk_of fun w hw => by exact refName_any s w (by omega)⟩, fun _ => Try.underlying4, trivial, trivial, fun _ => trivial, fun _ => trivial, fun _ => trivial, fun _ => Try.underlying4, trivial, trivial, fun _ => trivial, fun _ => trivial, fun _ => fun ty w => max_ok ty w, fun _ => trivial, trivial, trivial, fun _ => trivial, fun _ => trivial, fun _ => trivial, fun _ => Try.underlying4, trivial, trivial, fun _ => trivial, fun _ => trivial, fun _ => fun ty w => max_ok ty w, fun _ => trivial, trivial, trivial, trivial⟩ fun a w18 hA H _ => ?_
    refine hK17 _ _ ?_
    refine go_ret_ ?_
    refine ret_one 4 (.bool ((((((decide (cls r = cls r)) && ((nameB s) == (refNameL (classesR s)))) && (((numB s).2) == (decide ((0 : Int) ≤ refNum s)))) && (decide ((numB s).1 = max (refNum s) (0 : Int)))) && (((badB s).2) == (decide ((0 : Int) ≤ refBad s)))) && (decide ((badB s).1 = max (refBad s) (0 : Int))))) hA ?_
    exact ans_b (by first | rfl | (rw [name_eq s, (num_eq s).1, (num_eq s).2, (bad_eq s).1, (bad_eq s).2]; simp)) H.below

end Go.Proofs.Ytbdgelipabndaaa
