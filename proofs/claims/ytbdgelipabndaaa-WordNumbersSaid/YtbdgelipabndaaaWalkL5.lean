/-
  Walks, written by program: dec, WordNumbers.
-/
import Derived.Test.YtbdgelipabndaaaProg
import Derived.Test.YtbdgelipabndaaaWalkL1
import Derived.Test.YtbdgelipabndaaaWordG
import Derived.Test.YtbdgelipabndaaaEngG
set_option linter.unusedSimpArgs false
set_option linter.unusedVariables false
namespace Go.Proofs.Ytbdgelipabndaaa
open Go.RowKit

set_option maxRecDepth 100000 in
set_option maxHeartbeats 1000000 in
theorem dec_any (n : Int) (w : World) (h0 : 0 ≤ n ∧ n ≤ 999999999) :
  Calls Try.prog 20 [.int .i64 n].toArray w (Ans (.string (decB n)) w) := by
  refine enter Try.f20 22 Try.func20 fun a hA => ?_
  replace hA := env_sub [(0, .int .i64 n)] hA
  have H := Fr.start (org w)
  refine go_seq fun K1 hK1 => ?_
  refine q_reg [] [(0, .int .i64 n)] ((True) ∧ True) hA H ⟨trivial, trivial⟩ fun a w2 hA H _ => ?_
  refine hK1 _ _ ?_
  refine go_seq fun K3 hK3 => ?_
  refine q_reg [] [(0, .int .i64 n), (3, .string (⟨#[]⟩))] ((True) ∧ True) hA H ⟨trivial, trivial⟩ fun a w4 hA H _ => ?_
  refine hK3 _ _ ?_
  refine go_seq fun K5 hK5 => ?_
  refine go_seq fun K6 hK6 => ?_
  refine q_reg [] [(0, .int .i64 n), (3, .string (⟨#[]⟩)), (4, .int .i64 0)] ((True) ∧ True) hA H ⟨trivial, trivial⟩ fun a w7 hA H _ => ?_
  refine hK6 _ _ ?_
  refine go_block 0 ?_
  refine go_loop_ (Int × ByteArray × Int) (fun x a W => (fun (m : Int) (t : ByteArray) (i : Int) => EnvOk 22 a (keepEnv [(0, .int .i64 m), (3, .string t), (4, .int .i64 i)]) ∧ (∃ S, Fr (org w) W S []) ∧ 0 ≤ m ∧ m ≤ n ∧ 0 ≤ i ∧ i ≤ 12 ∧ (t.size : Int) ≤ i ∧ decGo (12 - i).toNat m t = decB n) x.1 x.2.1 x.2.2) (fun x => (fun (m : Int) (t : ByteArray) (i : Int) => (12 - i).toNat) x.1 x.2.1 x.2.2) (n, ⟨#[]⟩, 0) ?_ (fun x a w9 hI => ?_)
  · (try dsimp only); exact ⟨env_sub _ hA, ⟨_, H⟩, by omega, by omega, by omega, by omega, by decide, rfl⟩
  obtain ⟨m, t, i⟩ := x
  obtain ⟨hA, ⟨S, H⟩, h1, h2, h3, h4, h5, hi⟩ := hI
  try dsimp only at h1 h2 h3 h4 h5 hi
  refine go_seq fun K10 hK10 => ?_
  refine go_seq fun K11 hK11 => ?_
  refine q_reg [] [(0, .int .i64 m), (3, .string t), (4, .int .i64 i), (6, .bool (decide (i < 12)))] ((True) ∧ (True) ∧ True) hA H ⟨trivial, trivial, trivial⟩ fun a w12 hA H _ => ?_
  refine hK11 _ _ ?_
  refine go_cond hA (.tmp 6) (decide (i < 12)) (fun hb13 => ?_) (fun hb13 => ?_)
  · have hhb13 := of_decide_eq_true hb13
    refine go_skip ?_
    refine hK10 _ _ ?_
    refine go_seq fun K14 hK14 => ?_
    refine go_block 1 ?_
    refine go_seq fun K15 hK15 => ?_
    refine region_list ?_
    refine q_list 0 4 [] [(0, .int .i64 m), (3, .string t), (4, .int .i64 i), (12, .int .u8 (48 + (m % 10)))] ((True) ∧ (0 ≤ m ∧ 0 < (10 : Int)) ∧ (InR .i64 (48 + (m % 10))) ∧ (InR .u8 (48 + (m % 10))) ∧ True) hA H ⟨trivial, ⟨by omega, by omega⟩, ⟨by omega, by omega⟩, ⟨by omega, by omega⟩, trivial⟩ fun a w16 hA H _ => ?_
    refine q_lit 4 13 49 1 #[(0, .tmp 12)] 5 [(0, .int .u8 (48 + (m % 10)))] [.int .u8 (48 + (m % 10))] [(0, .int .i64 m), (3, .string t), (4, .int .i64 i)] hA H fun b17 a w18 H hA => ?_
    refine q_list 5 4 [(14, .string (strOfNums [48 + (m % 10)]))] [(0, .int .i64 m), (3, .string ((strOfNums [48 + (m % 10)]) ++ t)), (4, .int .i64 i)] ((∀ w', On w18 w' → (convert 49 9 ((.slice (some ⟨b17, 0, none⟩) 1 1))).run Try.prog w' = .ok (.string (strOfNums [48 + (m % 10)])) w') ∧ (True) ∧ ((strOfNums [48 + (m % 10)]).size + t.size ≤ 9223372036854775807) ∧ (True) ∧ True) hA H ⟨by exact conv_box H 0 [48 + (m % 10)] 1 rfl _ rfl rfl Try.underlying49 Try.underlying5 Try.underlying9, trivial, by (try simp only [strOfNums_size, List.length_cons, List.length_nil]); omega, trivial, trivial⟩ fun a w19 hA H _ => ?_
    refine list_end ?_
    refine hK15 _ _ ?_
    refine go_seq fun K20 hK20 => ?_
    refine q_reg [] [(0, .int .i64 (m / 10)), (3, .string ((strOfNums [48 + (m % 10)]) ++ t)), (4, .int .i64 i)] ((True) ∧ (0 ≤ m ∧ 0 < (10 : Int) ∧ InR .i64 m) ∧ (True) ∧ True) hA H ⟨trivial, ⟨by omega, by omega, by omega, by omega⟩, trivial, trivial⟩ fun a w21 hA H _ => ?_
    refine hK20 _ _ ?_
    refine go_seq fun K22 hK22 => ?_
    refine q_reg [] [(0, .int .i64 (m / 10)), (3, .string ((strOfNums [48 + (m % 10)]) ++ t)), (4, .int .i64 i), (20, .bool (decide (m / 10 = 0)))] ((True) ∧ (True) ∧ True) hA H ⟨trivial, trivial, trivial⟩ fun a w23 hA H _ => ?_
    refine hK22 _ _ ?_
    refine go_cond hA (.tmp 20) (decide (m / 10 = 0)) (fun hb24 => ?_) (fun hb24 => ?_)
    · have hhb24 := of_decide_eq_true hb24
      refine go_exit 0 ?_
      refine hK5 _ _ ?_
      refine go_seq fun K25 hK25 => ?_
      refine q_reg [] [(2, .string ((strOfNums [48 + (m % 10)]) ++ t))] ((True) ∧ (True) ∧ True) hA H ⟨trivial, trivial, trivial⟩ fun a w26 hA H _ => ?_
      refine hK25 _ _ ?_
      refine go_ret_ ?_
      refine ret_one 2 (.string ((strOfNums [48 + (m % 10)]) ++ t)) hA ?_
      exact ans_s (by rw [← hi, show (12 - i).toNat = (12 - (i + 1)).toNat + 1 from by omega]; simp only [decGo]; rw [if_pos hhb24]) H.below
    · have hhb24 := of_decide_eq_false hb24
      refine go_skip ?_
      refine hK14 _ _ ?_
      refine q_reg [] [(0, .int .i64 (m / 10)), (3, .string ((strOfNums [48 + (m % 10)]) ++ t)), (4, .int .i64 (i + 1))] ((True) ∧ (InR .i64 (i + 1)) ∧ (True) ∧ True) hA H ⟨trivial, ⟨by omega, by omega⟩, trivial, trivial⟩ fun a w27 hA H _ => ?_
      replace H := H.drop 0
      refine ⟨(m / 10, (strOfNums [48 + (m % 10)]) ++ t, i + 1), ⟨env_sub _ hA, ⟨_, H⟩, ?_⟩, ?_⟩
      · (try dsimp only); exact ⟨by omega, by omega, by omega, by omega, by rw [ByteArray.size_append, strOfNums_size]; simp only [List.length_cons, List.length_nil]; omega, by rw [show (12 - i).toNat = (12 - (i + 1)).toNat + 1 from by omega] at hi; simp only [decGo] at hi; rw [if_neg hhb24] at hi; exact hi⟩
      · (try dsimp only); omega
  · have hhb13 := of_decide_eq_false hb13
    refine go_exit 0 ?_
    refine hK5 _ _ ?_
    refine go_seq fun K28 hK28 => ?_
    refine q_reg [] [(2, .string t)] ((True) ∧ (True) ∧ True) hA H ⟨trivial, trivial, trivial⟩ fun a w29 hA H _ => ?_
    refine hK28 _ _ ?_
    refine go_ret_ ?_
    refine ret_one 2 (.string t) hA ?_
    exact ans_s (by rw [← hi, show (12 - i).toNat = 0 from by omega]; rfl) H.below

set_option maxRecDepth 100000 in
set_option maxHeartbeats 1000000 in
theorem wordNumbers_any (n : Int) (s : ByteArray) (w : World) (hn : -9223372036854775808 ≤ n ∧ n ≤ 9223372036854775807) :
  Calls Try.prog 7 [.int .i64 n, .string s].toArray w (Ans (.bool true) w) := by
  have hq := num_range s
  refine enter Try.f7 62 Try.func7 fun a hA => ?_
  replace hA := env_sub [(0, .int .i64 n), (1, .string s)] hA
  have H := Fr.start (org w)
  refine go_seq fun K1 hK1 => ?_
  refine q_reg [] [(0, .int .i64 n), (1, .string s)] ((True) ∧ True) hA H ⟨trivial, trivial⟩ fun a w2 hA H _ => ?_
  refine hK1 _ _ ?_
  refine go_seq fun K3 hK3 => ?_
  refine go_seq fun K4 hK4 => ?_
  refine q_reg [(9, .bool true)] [(0, .int .i64 n), (1, .string s), (15, .bool (decide ((3000 : Int) < (s.size : Int))))] ((Callable Try.prog 9 ∧ CallOk Try.prog (On w2) 9 [].toArray (.bool true)) ∧ (True) ∧ (True) ∧ ((false) = false → True) ∧ ((false) = false → True) ∧ ((false) = false → True) ∧ (True) ∧ True) hA H ⟨⟨callable_of, callOk_of fun w hw => by exact awake_any w⟩, trivial, trivial, fun _ => trivial, fun _ => trivial, fun _ => trivial, trivial, trivial⟩ fun a w5 hA H _ => ?_
  refine hK4 _ _ ?_
  refine go_cond hA (.tmp 15) (decide ((3000 : Int) < (s.size : Int))) (fun hb6 => ?_) (fun hb6 => ?_)
  · have hhb6 := of_decide_eq_true hb6
    refine go_seq fun K7 hK7 => ?_
    refine q_reg [(16, .bool true)] [(4, .bool true)] ((Callable Try.prog 9 ∧ CallOk Try.prog (On w5) 9 [].toArray (.bool true)) ∧ (True) ∧ True) hA H ⟨⟨callable_of, callOk_of fun w hw => by exact awake_any w⟩, trivial, trivial⟩ fun a w8 hA H _ => ?_
    refine hK7 _ _ ?_
    refine go_ret_ ?_
    refine ret_one 4 (.bool true) hA ?_
    exact ans_b (by first | rfl | exact numbers_law s) H.below
  · have hhb6 := of_decide_eq_false hb6
    refine go_skip ?_
    refine hK3 _ _ ?_
    refine go_seq fun K9 hK9 => ?_
    refine go_seq fun K10 hK10 => ?_
    refine q_reg [] [(0, .int .i64 n), (1, .string s), (22, .bool ((decide ((0 : Int) ≤ n)) && (decide (n ≤ 999999999))))] ((True) ∧ (True) ∧ (True) ∧ ((decide ((0 : Int) ≤ n)) = true → True) ∧ ((decide ((0 : Int) ≤ n)) = true → True) ∧ (True) ∧ True) hA H ⟨trivial, trivial, trivial, fun _ => trivial, fun _ => trivial, trivial, trivial⟩ fun a w11 hA H _ => ?_
    refine hK10 _ _ ?_
    refine go_cond hA (.tmp 22) ((decide ((0 : Int) ≤ n)) && (decide (n ≤ 999999999))) (fun hb12 => ?_) (fun hb12 => ?_)
    · have hhb12 := (⟨of_decide_eq_true ((aT hb12).1), of_decide_eq_true ((aT hb12).2)⟩ : _ ∧ _)
      refine go_seq fun K13 hK13 => ?_
      refine q_reg [(25, .string (decB n)), (26, .tuple #[.int .i64 ((numB (decB n)).1), .bool ((numB (decB n)).2)])] [(0, .int .i64 n), (1, .string s), (5, .int .i64 ((numB (decB n)).1)), (6, .bool ((numB (decB n)).2))] ((True) ∧ (Callable Try.prog 20 ∧ CallOk Try.prog (On w11) 20 [.int .i64 n].toArray (.string (decB n))) ∧ (Callable Try.prog 13 ∧ CallOk Try.prog (On w11) 13 [.string (decB n)].toArray (.tuple #[.int .i64 ((numB (decB n)).1), .bool ((numB (decB n)).2)])) ∧ (True) ∧ (True) ∧ (True) ∧ (True) ∧ (True) ∧ True) hA H ⟨trivial, ⟨callable_of, callOk_of fun w hw => by exact dec_any n w (by omega)⟩, ⟨callable_of, callOk_of fun w hw => by exact number_any (decB n) w⟩, trivial, trivial, trivial, trivial, trivial, trivial⟩ fun a w14 hA H _ => ?_
      refine hK13 _ _ ?_
      refine go_seq fun K15 hK15 => ?_
      have hdr := dec_read (n := n) (by omega) (by omega)
      refine q_reg [] [(1, .string s), (35, .bool ((!((numB (decB n)).2)) || (!decide ((numB (decB n)).1 = n))))] ((True) ∧ (True) ∧ (True) ∧ ((!((numB (decB n)).2)) = false → True) ∧ ((!((numB (decB n)).2)) = false → True) ∧ ((!((numB (decB n)).2)) = false → True) ∧ (True) ∧ True) hA H ⟨trivial, trivial, trivial, fun _ => trivial, fun _ => trivial, fun _ => trivial, trivial, trivial⟩ fun a w16 hA H _ => ?_
      refine hK15 _ _ ?_
      refine go_cond hA (.tmp 35) ((!((numB (decB n)).2)) || (!decide ((numB (decB n)).1 = n))) (fun hb17 => ?_) (fun hb17 => ?_)
      · have hhb17 := (oT hb17).imp (fun h => (nT h)) (fun h => of_decide_eq_false (nT h))
        exact (hhb17.elim (fun h => by rw [hdr] at h; cases h) (fun h => h (by rw [hdr]))).elim
      · have hhb17 := (⟨(nF ((oF hb17).1)), of_decide_eq_true (nF ((oF hb17).2))⟩ : _ ∧ _)
        refine go_skip ?_
        refine hK9 _ _ ?_
        refine go_seq fun K18 hK18 => ?_
        refine q_reg [(38, .tuple #[.int .i64 ((numB s).1), .bool ((numB s).2)])] [(1, .string s), (7, .int .i64 ((numB s).1)), (8, .bool ((numB s).2))] ((True) ∧ (Callable Try.prog 13 ∧ CallOk Try.prog (On w16) 13 [.string s].toArray (.tuple #[.int .i64 ((numB s).1), .bool ((numB s).2)])) ∧ (True) ∧ (True) ∧ (True) ∧ (True) ∧ (True) ∧ True) hA H ⟨trivial, ⟨callable_of, callOk_of fun w hw => by exact number_any s w⟩, trivial, trivial, trivial, trivial, trivial, trivial⟩ fun a w19 hA H _ => ?_
        refine hK18 _ _ ?_
        refine go_seq fun K20 hK20 => ?_
        refine q_reg [(57, .string (decB ((numB s).1)))] [(4, .bool ((((numB s).2) == ((decide ((0 : Int) < (numB s).1)) || (((numB s).2) && (s.toList == (⟨#[48]⟩ : ByteArray).toList)))) && ((!((numB s).2)) || ((decB ((numB s).1)).toList == s.toList))))] ((True) ∧ (True) ∧ (True) ∧ (True) ∧ ((decide ((0 : Int) < (numB s).1)) = false → True) ∧ ((decide ((0 : Int) < (numB s).1)) = false → True) ∧ ((decide ((0 : Int) < (numB s).1)) = false → ((numB s).2) = true → True) ∧ ((decide ((0 : Int) < (numB s).1)) = false → ((numB s).2) = true → True) ∧ ((decide ((0 : Int) < (numB s).1)) = false → True) ∧ (True) ∧ (Try.prog.underlying 4 = some .bool) ∧ (True) ∧ ((((numB s).2) == ((decide ((0 : Int) < (numB s).1)) || (((numB s).2) && (s.toList == (⟨#[48]⟩ : ByteArray).toList)))) = true → True) ∧ ((((numB s).2) == ((decide ((0 : Int) < (numB s).1)) || (((numB s).2) && (s.toList == (⟨#[48]⟩ : ByteArray).toList)))) = true → True) ∧ ((((numB s).2) == ((decide ((0 : Int) < (numB s).1)) || (((numB s).2) && (s.toList == (⟨#[48]⟩ : ByteArray).toList)))) = true → True) ∧ ((((numB s).2) == ((decide ((0 : Int) < (numB s).1)) || (((numB s).2) && (s.toList == (⟨#[48]⟩ : ByteArray).toList)))) = true → (!((numB s).2)) = false → True) ∧ ((((numB s).2) == ((decide ((0 : Int) < (numB s).1)) || (((numB s).2) && (s.toList == (⟨#[48]⟩ : ByteArray).toList)))) = true → (!((numB s).2)) = false → Callable Try.prog 20 ∧ CallOk Try.prog (On w19) 20 [.int .i64 ((numB s).1)].toArray (.string (decB ((numB s).1)))) ∧ ((((numB s).2) == ((decide ((0 : Int) < (numB s).1)) || (((numB s).2) && (s.toList == (⟨#[48]⟩ : ByteArray).toList)))) = true → (!((numB s).2)) = false → True) ∧ ((((numB s).2) == ((decide ((0 : Int) < (numB s).1)) || (((numB s).2) && (s.toList == (⟨#[48]⟩ : ByteArray).toList)))) = true → (!((numB s).2)) = false → True) ∧ ((((numB s).2) == ((decide ((0 : Int) < (numB s).1)) || (((numB s).2) && (s.toList == (⟨#[48]⟩ : ByteArray).toList)))) = true → True) ∧ (True) ∧ (True) ∧ True) hA H ⟨trivial, trivial, trivial, trivial, fun _ => trivial, fun _ => trivial, fun _ _ => trivial, fun _ _ => trivial, fun _ => trivial, trivial, Try.underlying4, trivial, fun _ => trivial, fun _ => trivial, fun _ => trivial, fun _ _ => trivial, fun hg0 hg1 => by replace hg0 := hg0; replace hg1 := (nF hg1); exact ⟨callable_of, callOk_of fun w hw => by exact dec_any ((numB s).1) w (by omega)⟩, fun _ _ => trivial, fun _ _ => trivial, fun _ => trivial, trivial, trivial, trivial⟩ fun a w21 hA H _ => ?_
        refine hK20 _ _ ?_
        refine go_ret_ ?_
        refine ret_one 4 (.bool ((((numB s).2) == ((decide ((0 : Int) < (numB s).1)) || (((numB s).2) && (s.toList == (⟨#[48]⟩ : ByteArray).toList)))) && ((!((numB s).2)) || ((decB ((numB s).1)).toList == s.toList)))) hA ?_
        exact ans_b (by first | rfl | exact numbers_law s) H.below
    · have hhb12 := (aF hb12).imp (fun h => of_decide_eq_false h) (fun h => of_decide_eq_false h)
      refine go_skip ?_
      refine hK9 _ _ ?_
      refine go_seq fun K22 hK22 => ?_
      refine q_reg [(38, .tuple #[.int .i64 ((numB s).1), .bool ((numB s).2)])] [(1, .string s), (7, .int .i64 ((numB s).1)), (8, .bool ((numB s).2))] ((True) ∧ (Callable Try.prog 13 ∧ CallOk Try.prog (On w11) 13 [.string s].toArray (.tuple #[.int .i64 ((numB s).1), .bool ((numB s).2)])) ∧ (True) ∧ (True) ∧ (True) ∧ (True) ∧ (True) ∧ True) hA H ⟨trivial, ⟨callable_of, callOk_of fun w hw => by exact number_any s w⟩, trivial, trivial, trivial, trivial, trivial, trivial⟩ fun a w23 hA H _ => ?_
      refine hK22 _ _ ?_
      refine go_seq fun K24 hK24 => ?_
      refine q_reg [(57, .string (decB ((numB s).1)))] [(4, .bool ((((numB s).2) == ((decide ((0 : Int) < (numB s).1)) || (((numB s).2) && (s.toList == (⟨#[48]⟩ : ByteArray).toList)))) && ((!((numB s).2)) || ((decB ((numB s).1)).toList == s.toList))))] ((True) ∧ (True) ∧ (True) ∧ (True) ∧ ((decide ((0 : Int) < (numB s).1)) = false → True) ∧ ((decide ((0 : Int) < (numB s).1)) = false → True) ∧ ((decide ((0 : Int) < (numB s).1)) = false → ((numB s).2) = true → True) ∧ ((decide ((0 : Int) < (numB s).1)) = false → ((numB s).2) = true → True) ∧ ((decide ((0 : Int) < (numB s).1)) = false → True) ∧ (True) ∧ (Try.prog.underlying 4 = some .bool) ∧ (True) ∧ ((((numB s).2) == ((decide ((0 : Int) < (numB s).1)) || (((numB s).2) && (s.toList == (⟨#[48]⟩ : ByteArray).toList)))) = true → True) ∧ ((((numB s).2) == ((decide ((0 : Int) < (numB s).1)) || (((numB s).2) && (s.toList == (⟨#[48]⟩ : ByteArray).toList)))) = true → True) ∧ ((((numB s).2) == ((decide ((0 : Int) < (numB s).1)) || (((numB s).2) && (s.toList == (⟨#[48]⟩ : ByteArray).toList)))) = true → True) ∧ ((((numB s).2) == ((decide ((0 : Int) < (numB s).1)) || (((numB s).2) && (s.toList == (⟨#[48]⟩ : ByteArray).toList)))) = true → (!((numB s).2)) = false → True) ∧ ((((numB s).2) == ((decide ((0 : Int) < (numB s).1)) || (((numB s).2) && (s.toList == (⟨#[48]⟩ : ByteArray).toList)))) = true → (!((numB s).2)) = false → Callable Try.prog 20 ∧ CallOk Try.prog (On w23) 20 [.int .i64 ((numB s).1)].toArray (.string (decB ((numB s).1)))) ∧ ((((numB s).2) == ((decide ((0 : Int) < (numB s).1)) || (((numB s).2) && (s.toList == (⟨#[48]⟩ : ByteArray).toList)))) = true → (!((numB s).2)) = false → True) ∧ ((((numB s).2) == ((decide ((0 : Int) < (numB s).1)) || (((numB s).2) && (s.toList == (⟨#[48]⟩ : ByteArray).toList)))) = true → (!((numB s).2)) = false → True) ∧ ((((numB s).2) == ((decide ((0 : Int) < (numB s).1)) || (((numB s).2) && (s.toList == (⟨#[48]⟩ : ByteArray).toList)))) = true → True) ∧ (True) ∧ (True) ∧ True) hA H ⟨trivial, trivial, trivial, trivial, fun _ => trivial, fun _ => trivial, fun _ _ => trivial, fun _ _ => trivial, fun _ => trivial, trivial, Try.underlying4, trivial, fun _ => trivial, fun _ => trivial, fun _ => trivial, fun _ _ => trivial, fun hg0 hg1 => by replace hg0 := hg0; replace hg1 := (nF hg1); exact ⟨callable_of, callOk_of fun w hw => by exact dec_any ((numB s).1) w (by omega)⟩, fun _ _ => trivial, fun _ _ => trivial, fun _ => trivial, trivial, trivial, trivial⟩ fun a w25 hA H _ => ?_
      refine hK24 _ _ ?_
      refine go_ret_ ?_
      refine ret_one 4 (.bool ((((numB s).2) == ((decide ((0 : Int) < (numB s).1)) || (((numB s).2) && (s.toList == (⟨#[48]⟩ : ByteArray).toList)))) && ((!((numB s).2)) || ((decB ((numB s).1)).toList == s.toList)))) hA ?_
      exact ans_b (by first | rfl | exact numbers_law s) H.below

end Go.Proofs.Ytbdgelipabndaaa
