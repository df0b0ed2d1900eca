/-
  Walks, written by program: Classes, refBad, refNumber.
-/
import Derived.Test.YtbdgelipabndaaaProg
import Derived.Test.YtbdgelipabndaaaWalkW2
set_option linter.unusedSimpArgs false
set_option linter.unusedVariables false
namespace Go.Proofs.Ytbdgelipabndaaa
open Go.RowKit

set_option maxRecDepth 100000 in
set_option maxHeartbeats 1000000 in
theorem classes_any (s : ByteArray) (o : Orig) (hs : s.size ≤ 1000000000) :
  Calls Try.prog 26 [.string s].toArray o.w (Giv o (fun S v w' => Rd S w' v (classesR s))) := by
  refine enter Try.f26 31 Try.func26 fun a hA => ?_
  replace hA := env_sub [(0, .string s)] hA
  have H := Fr.start o
  refine go_seq fun K1 hK1 => ?_
  refine q_reg [] [(0, .string s)] ((True) ∧ True) hA H ⟨trivial, trivial⟩ fun a w2 hA H hG => ?_
  refine hK1 _ _ ?_
  refine go_seq fun K3 hK3 => ?_
  refine q_reg [] [(0, .string s), (3, (.slice none 0 0))] ((True) ∧ True) hA H ⟨trivial, trivial⟩ fun a w4 hA H hG => ?_
  refine hK3 _ _ ?_
  refine go_seq fun K5 hK5 => ?_
  refine go_seq fun K6 hK6 => ?_
  refine q_reg [] [(0, .string s), (3, (.slice none 0 0)), (4, .int .i64 0)] ((True) ∧ True) hA H ⟨trivial, trivial⟩ fun a w7 hA H hG => ?_
  refine hK6 _ _ ?_
  refine go_block 0 ?_
  replace H := H.newRow (α := Int) 3
  refine go_loop_ (Nat × Value × List Int) (fun x_ a W => (fun (pos : Nat) (v : Value) (l : List Int) => EnvOk 31 a (keepEnv [(0, .string s), (3, v), (4, .int .i64 (pos : Int))]) ∧ (∃ S, Fr o W S [.row 3 v l]) ∧ l.length ≤ pos ∧ l ++ (runes s pos).map (rcl s) = classesR s) x_.1 x_.2.1 x_.2.2) (fun x_ => (fun (pos : Nat) (v : Value) (l : List Int) => s.size - pos) x_.1 x_.2.1 x_.2.2) (0, .slice none 0 0, []) ?_ (fun x_ a w9 hI => ?_)
  · (try dsimp only); exact ⟨env_sub _ hA, ⟨_, H⟩, by simp, rfl⟩
  obtain ⟨pos, v, l⟩ := x_
  obtain ⟨hA, ⟨S, H⟩, h1, hi⟩ := hI
  try dsimp only at h1 hi
  refine go_seq fun K10 hK10 => ?_
  refine go_seq fun K11 hK11 => ?_
  refine q_reg [] [(0, .string s), (3, v), (4, .int .i64 (pos : Int)), (10, .bool (decide ((pos : Int) < (s.size : Int))))] ((True) ∧ (True) ∧ (True) ∧ (True) ∧ True) hA H ⟨trivial, trivial, trivial, trivial, trivial⟩ fun a w12 hA H hG => ?_
  refine hK11 _ _ ?_
  refine go_cond hA (.tmp 10) (decide ((pos : Int) < (s.size : Int))) (fun hb13 => ?_) (fun hb13 => ?_)
  · have hhb13 := of_decide_eq_true hb13
    refine go_skip ?_
    refine hK10 _ _ ?_
    refine go_block 1 ?_
    refine go_seq fun K14 hK14 => ?_
    refine q_reg [(14, .tuple #[.int .i64 ((rRune s (pos : Int)).1), .int .i64 ((rRune s (pos : Int)).2)])] [(0, .string s), (3, v), (4, .int .i64 (pos : Int)), (5, .int .i64 ((rRune s (pos : Int)).1)), (6, .int .i64 ((rRune s (pos : Int)).2))] ((True) ∧ (True) ∧ (Callable Try.prog 24 ∧ CallOk Try.prog (On w12) 24 [.string s, .int .i64 (pos : Int)].toArray (.tuple #[.int .i64 ((rRune s (pos : Int)).1), .int .i64 ((rRune s (pos : Int)).2)])) ∧ (True) ∧ (True) ∧ (True) ∧ (True) ∧ (True) ∧ True) hA H ⟨trivial, trivial, ⟨callable_of, callOk_of fun w hw => by exact refRune_any s (pos : Int) w (by omega) (by omega) (by omega)⟩, trivial, trivial, trivial, trivial, trivial, trivial⟩ fun a w15 hA H hG => ?_
    refine hK14 _ _ ?_
    refine go_seq fun K16 hK16 => ?_
    refine go_seq fun K17 hK17 => ?_
    refine q_reg [] [(0, .string s), (3, v), (4, .int .i64 (pos : Int)), (5, .int .i64 ((rRune s (pos : Int)).1)), (6, .int .i64 ((rRune s (pos : Int)).2)), (18, .bool (decide ((rRune s (pos : Int)).1 < 0)))] ((True) ∧ (True) ∧ True) hA H ⟨trivial, trivial, trivial⟩ fun a w18 hA H hG => ?_
    refine hK17 _ _ ?_
    refine go_cond hA (.tmp 18) (decide ((rRune s (pos : Int)).1 < 0)) (fun hb19 => ?_) (fun hb19 => ?_)
    · have hhb19 := of_decide_eq_true hb19
      refine region_list ?_
      refine q_list 0 1 [] [(0, .string s), (4, .int .i64 (pos : Int)), (6, .int .i64 ((rRune s (pos : Int)).2)), (19, v)] ((True) ∧ True) hA H ⟨trivial, trivial⟩ fun a w20 hA H hG => ?_
      refine list_at 1 ?_; refine q_lit 1 20 47 1 #[(0, .const (.int .i64 9))] 3 [(0, .int .i64 9)] [.int .i64 9] [(0, .string s), (4, .int .i64 (pos : Int)), (6, .int .i64 ((rRune s (pos : Int)).2)), (19, v)] hA H fun b21 a w22 H hA hG hge_b21 => ?_
      clear hge_b21
      refine list_at 2 ?_; refine q_push 2 21 (.tmp 19) (.tmp 20) 1 0 b21 1 1 v l [9] [.int .i64 9] [(0, .string s), (4, .int .i64 (pos : Int)), (6, .int .i64 ((rRune s (pos : Int)).2))] hA H Try.E47 rfl rfl (by exact (RowRd.single (α := Int) rfl)) rfl (by simp only [List.length_cons, List.length_nil, List.length_append]; omega) (by decide) fun v23 a w24 H hA hG => ?_
      replace H : Fr _ _ _ [.row 3 v23 (l ++ [9])] := H.drop 0
      refine q_list 3 1 [] [(0, .string s), (3, v23), (4, .int .i64 (pos : Int)), (6, .int .i64 ((rRune s (pos : Int)).2))] ((True) ∧ True) hA H ⟨trivial, trivial⟩ fun a w25 hA H hG => ?_
      refine list_end ?_
      refine hK16 _ _ ?_
      have hw4 := rRune_w s pos
      refine q_reg [] [(0, .string s), (3, v23), (4, .int .i64 ((pos : Int) + ((rRune s (pos : Int)).2)))] ((True) ∧ (True) ∧ (InR .i64 ((pos : Int) + ((rRune s (pos : Int)).2))) ∧ (True) ∧ True) hA H ⟨trivial, trivial, ⟨by omega, by omega⟩, trivial, trivial⟩ fun a w26 hA H hG => ?_
      rw [(rRune_decode s pos).1] at hA
      refine ⟨(pos + (Utf8.decode s pos).2, v23, l ++ [9]), ⟨env_sub _ hA, ⟨_, H⟩, ?_⟩, ?_⟩
      · (try dsimp only); have hwd := width_pos s pos (by omega); exact ⟨by rw [List.length_append, List.length_cons, List.length_nil]; omega, by rw [runes_cons s pos (by omega), List.map_cons] at hi; rw [List.append_assoc]; simp only [List.cons_append, List.nil_append]; rw [← hi]; first | rw [rcl_neg hhb19] | rw [rcl_pos hhb19]⟩
      · (try dsimp only); have := width_pos s pos (by omega); omega
    · have hhb19 := of_decide_eq_false hb19
      refine region_list ?_
      refine q_list 0 3 [(24, .int .i64 (cls ((rRune s (pos : Int)).1)))] [(0, .string s), (4, .int .i64 (pos : Int)), (6, .int .i64 ((rRune s (pos : Int)).2)), (22, v), (24, .int .i64 (cls ((rRune s (pos : Int)).1)))] ((True) ∧ (True) ∧ (Callable Try.prog 18 ∧ CallOk Try.prog (On w18) 18 [.int .i64 ((rRune s (pos : Int)).1)].toArray (.int .i64 (cls ((rRune s (pos : Int)).1)))) ∧ True) hA H ⟨trivial, trivial, ⟨callable_of, callOk_of fun w hw => by exact refClass_any ((rRune s (pos : Int)).1) w⟩, trivial⟩ fun a w27 hA H hG => ?_
      refine list_at 3 ?_; refine q_lit 3 25 47 1 #[(0, .tmp 24)] 3 [(0, .int .i64 (cls ((rRune s (pos : Int)).1)))] [.int .i64 (cls ((rRune s (pos : Int)).1))] [(0, .string s), (4, .int .i64 (pos : Int)), (6, .int .i64 ((rRune s (pos : Int)).2)), (22, v)] hA H fun b28 a w29 H hA hG hge_b28 => ?_
      clear hge_b28
      refine list_at 4 ?_; refine q_push 4 26 (.tmp 22) (.tmp 25) 1 0 b28 1 1 v l [cls ((rRune s (pos : Int)).1)] [.int .i64 (cls ((rRune s (pos : Int)).1))] [(0, .string s), (4, .int .i64 (pos : Int)), (6, .int .i64 ((rRune s (pos : Int)).2))] hA H Try.E47 rfl rfl (by exact (RowRd.single (α := Int) rfl)) rfl (by simp only [List.length_cons, List.length_nil, List.length_append]; omega) (by decide) fun v30 a w31 H hA hG => ?_
      replace H : Fr _ _ _ [.row 3 v30 (l ++ [cls ((rRune s (pos : Int)).1)])] := H.drop 0
      refine q_list 5 1 [] [(0, .string s), (3, v30), (4, .int .i64 (pos : Int)), (6, .int .i64 ((rRune s (pos : Int)).2))] ((True) ∧ True) hA H ⟨trivial, trivial⟩ fun a w32 hA H hG => ?_
      refine list_end ?_
      refine hK16 _ _ ?_
      have hw4 := rRune_w s pos
      refine q_reg [] [(0, .string s), (3, v30), (4, .int .i64 ((pos : Int) + ((rRune s (pos : Int)).2)))] ((True) ∧ (True) ∧ (InR .i64 ((pos : Int) + ((rRune s (pos : Int)).2))) ∧ (True) ∧ True) hA H ⟨trivial, trivial, ⟨by omega, by omega⟩, trivial, trivial⟩ fun a w33 hA H hG => ?_
      rw [(rRune_decode s pos).1] at hA
      refine ⟨(pos + (Utf8.decode s pos).2, v30, l ++ [cls ((rRune s (pos : Int)).1)]), ⟨env_sub _ hA, ⟨_, H⟩, ?_⟩, ?_⟩
      · (try dsimp only); have hwd := width_pos s pos (by omega); exact ⟨by rw [List.length_append, List.length_cons, List.length_nil]; omega, by rw [runes_cons s pos (by omega), List.map_cons] at hi; rw [List.append_assoc]; simp only [List.cons_append, List.nil_append]; rw [← hi]; first | rw [rcl_neg hhb19] | rw [rcl_pos hhb19]⟩
      · (try dsimp only); have := width_pos s pos (by omega); omega
  · have hhb13 := of_decide_eq_false hb13
    refine go_exit 0 ?_
    refine hK5 _ _ ?_
    refine go_seq fun K34 hK34 => ?_
    refine q_reg [] [(2, v)] ((True) ∧ (True) ∧ True) hA H ⟨trivial, trivial, trivial⟩ fun a w35 hA H hG => ?_
    refine hK34 _ _ ?_
    refine go_ret_ ?_
    refine ret_one 2 v hA ?_
    have ho := H.give 0 rfl
    rw [runes_nil s pos (by omega)] at hi; simp only [List.map_nil, List.append_nil] at hi; rw [hi] at ho; exact ⟨_, rfl, ho, H.below⟩

set_option maxRecDepth 100000 in
set_option maxHeartbeats 1000000 in
theorem refBad_any (s : ByteArray) (w : World) (hs : s.size ≤ 1000000000) :
  Calls Try.prog 16 [.string s].toArray w (Ans (.int .i64 (refBad s)) w) := by
  refine enter Try.f16 51 Try.func16 fun a hA => ?_
  replace hA := env_sub [(0, .string s)] hA
  have H := Fr.start (org w)
  refine go_seq fun K1 hK1 => ?_
  refine q_reg [] [(0, .string s)] ((True) ∧ True) hA H ⟨trivial, trivial⟩ fun a w2 hA H hG => ?_
  refine hK1 _ _ ?_
  refine go_seq fun K3 hK3 => ?_
  refine go_seq fun K4 hK4 => ?_
  refine q_reg [] [(0, .string s), (3, .int .i64 0)] ((True) ∧ True) hA H ⟨trivial, trivial⟩ fun a w5 hA H hG => ?_
  refine hK4 _ _ ?_
  refine go_block 0 ?_
  refine go_loop_ (Nat) (fun x_ a W => (fun (pos : Nat) => EnvOk 51 a (keepEnv [(0, .string s), (3, .int .i64 (pos : Int))]) ∧ (∃ S, Fr (org w) W S []) ∧ brGo s (runes s pos) = refBad s) x_) (fun x_ => (fun (pos : Nat) => s.size - pos) x_) (0) ?_ (fun pos a w7 hI => ?_)
  · (try dsimp only); exact ⟨env_sub _ hA, ⟨_, H⟩, rfl⟩
  obtain ⟨hA, ⟨S, H⟩, hi⟩ := hI
  try dsimp only at hi
  refine go_seq fun K8 hK8 => ?_
  refine go_seq fun K9 hK9 => ?_
  refine q_reg [] [(0, .string s), (3, .int .i64 (pos : Int)), (9, .bool (decide ((pos : Int) < (s.size : Int))))] ((True) ∧ (True) ∧ (True) ∧ (True) ∧ True) hA H ⟨trivial, trivial, trivial, trivial, trivial⟩ fun a w10 hA H hG => ?_
  refine hK9 _ _ ?_
  refine go_cond hA (.tmp 9) (decide ((pos : Int) < (s.size : Int))) (fun hb11 => ?_) (fun hb11 => ?_)
  · have hhb11 := of_decide_eq_true hb11
    refine go_skip ?_
    refine hK8 _ _ ?_
    refine go_block 1 ?_
    refine go_seq fun K12 hK12 => ?_
    refine q_reg [(13, .tuple #[.int .i64 ((rRune s (pos : Int)).1), .int .i64 ((rRune s (pos : Int)).2)])] [(0, .string s), (3, .int .i64 (pos : Int)), (4, .int .i64 ((rRune s (pos : Int)).1)), (5, .int .i64 ((rRune s (pos : Int)).2))] ((True) ∧ (True) ∧ (Callable Try.prog 24 ∧ CallOk Try.prog (On w10) 24 [.string s, .int .i64 (pos : Int)].toArray (.tuple #[.int .i64 ((rRune s (pos : Int)).1), .int .i64 ((rRune s (pos : Int)).2)])) ∧ (True) ∧ (True) ∧ (True) ∧ (True) ∧ (True) ∧ True) hA H ⟨trivial, trivial, ⟨callable_of, callOk_of fun w hw => by exact refRune_any s (pos : Int) w (by omega) (by omega) (by omega)⟩, trivial, trivial, trivial, trivial, trivial, trivial⟩ fun a w13 hA H hG => ?_
    refine hK12 _ _ ?_
    refine go_seq fun K14 hK14 => ?_
    refine go_seq fun K15 hK15 => ?_
    refine q_reg [(24, .int .i64 (cls ((rRune s (pos : Int)).1)))] [(0, .string s), (3, .int .i64 (pos : Int)), (5, .int .i64 ((rRune s (pos : Int)).2)), (46, .bool (((decide ((rRune s (pos : Int)).1 < 0)) || (decide ((rRune s (pos : Int)).1 = 65533))) || (((((decide (cls ((rRune s (pos : Int)).1) = 0)) && (!decide ((rRune s (pos : Int)).1 = 10))) && ((decide ((rRune s (pos : Int)).1 < 43)) || (decide ((47 : Int) < (rRune s (pos : Int)).1)))) && (!decide ((rRune s (pos : Int)).1 = 58))) && (!decide ((rRune s (pos : Int)).1 = 124)))))] ((True) ∧ (True) ∧ (True) ∧ ((decide ((rRune s (pos : Int)).1 < 0)) = false → True) ∧ ((decide ((rRune s (pos : Int)).1 < 0)) = false → True) ∧ (True) ∧ (True) ∧ (((decide ((rRune s (pos : Int)).1 < 0)) || (decide ((rRune s (pos : Int)).1 = 65533))) = false → True) ∧ (((decide ((rRune s (pos : Int)).1 < 0)) || (decide ((rRune s (pos : Int)).1 = 65533))) = false → Callable Try.prog 18 ∧ CallOk Try.prog (On w13) 18 [.int .i64 ((rRune s (pos : Int)).1)].toArray (.int .i64 (cls ((rRune s (pos : Int)).1)))) ∧ (((decide ((rRune s (pos : Int)).1 < 0)) || (decide ((rRune s (pos : Int)).1 = 65533))) = false → True) ∧ (((decide ((rRune s (pos : Int)).1 < 0)) || (decide ((rRune s (pos : Int)).1 = 65533))) = false → True) ∧ (((decide ((rRune s (pos : Int)).1 < 0)) || (decide ((rRune s (pos : Int)).1 = 65533))) = false → (decide (cls ((rRune s (pos : Int)).1) = 0)) = true → True) ∧ (((decide ((rRune s (pos : Int)).1 < 0)) || (decide ((rRune s (pos : Int)).1 = 65533))) = false → (decide (cls ((rRune s (pos : Int)).1) = 0)) = true → True) ∧ (((decide ((rRune s (pos : Int)).1 < 0)) || (decide ((rRune s (pos : Int)).1 = 65533))) = false → True) ∧ (((decide ((rRune s (pos : Int)).1 < 0)) || (decide ((rRune s (pos : Int)).1 = 65533))) = false → True) ∧ (((decide ((rRune s (pos : Int)).1 < 0)) || (decide ((rRune s (pos : Int)).1 = 65533))) = false → ((decide (cls ((rRune s (pos : Int)).1) = 0)) && (!decide ((rRune s (pos : Int)).1 = 10))) = true → True) ∧ (((decide ((rRune s (pos : Int)).1 < 0)) || (decide ((rRune s (pos : Int)).1 = 65533))) = false → ((decide (cls ((rRune s (pos : Int)).1) = 0)) && (!decide ((rRune s (pos : Int)).1 = 10))) = true → True) ∧ (((decide ((rRune s (pos : Int)).1 < 0)) || (decide ((rRune s (pos : Int)).1 = 65533))) = false → ((decide (cls ((rRune s (pos : Int)).1) = 0)) && (!decide ((rRune s (pos : Int)).1 = 10))) = true → True) ∧ (((decide ((rRune s (pos : Int)).1 < 0)) || (decide ((rRune s (pos : Int)).1 = 65533))) = false → ((decide (cls ((rRune s (pos : Int)).1) = 0)) && (!decide ((rRune s (pos : Int)).1 = 10))) = true → (decide ((rRune s (pos : Int)).1 < 43)) = false → True) ∧ (((decide ((rRune s (pos : Int)).1 < 0)) || (decide ((rRune s (pos : Int)).1 = 65533))) = false → ((decide (cls ((rRune s (pos : Int)).1) = 0)) && (!decide ((rRune s (pos : Int)).1 = 10))) = true → (decide ((rRune s (pos : Int)).1 < 43)) = false → True) ∧ (((decide ((rRune s (pos : Int)).1 < 0)) || (decide ((rRune s (pos : Int)).1 = 65533))) = false → ((decide (cls ((rRune s (pos : Int)).1) = 0)) && (!decide ((rRune s (pos : Int)).1 = 10))) = true → True) ∧ (((decide ((rRune s (pos : Int)).1 < 0)) || (decide ((rRune s (pos : Int)).1 = 65533))) = false → True) ∧ (((decide ((rRune s (pos : Int)).1 < 0)) || (decide ((rRune s (pos : Int)).1 = 65533))) = false → True) ∧ (((decide ((rRune s (pos : Int)).1 < 0)) || (decide ((rRune s (pos : Int)).1 = 65533))) = false → (((decide (cls ((rRune s (pos : Int)).1) = 0)) && (!decide ((rRune s (pos : Int)).1 = 10))) && ((decide ((rRune s (pos : Int)).1 < 43)) || (decide ((47 : Int) < (rRune s (pos : Int)).1)))) = true → True) ∧ (((decide ((rRune s (pos : Int)).1 < 0)) || (decide ((rRune s (pos : Int)).1 = 65533))) = false → (((decide (cls ((rRune s (pos : Int)).1) = 0)) && (!decide ((rRune s (pos : Int)).1 = 10))) && ((decide ((rRune s (pos : Int)).1 < 43)) || (decide ((47 : Int) < (rRune s (pos : Int)).1)))) = true → True) ∧ (((decide ((rRune s (pos : Int)).1 < 0)) || (decide ((rRune s (pos : Int)).1 = 65533))) = false → True) ∧ (((decide ((rRune s (pos : Int)).1 < 0)) || (decide ((rRune s (pos : Int)).1 = 65533))) = false → True) ∧ (((decide ((rRune s (pos : Int)).1 < 0)) || (decide ((rRune s (pos : Int)).1 = 65533))) = false → ((((decide (cls ((rRune s (pos : Int)).1) = 0)) && (!decide ((rRune s (pos : Int)).1 = 10))) && ((decide ((rRune s (pos : Int)).1 < 43)) || (decide ((47 : Int) < (rRune s (pos : Int)).1)))) && (!decide ((rRune s (pos : Int)).1 = 58))) = true → True) ∧ (((decide ((rRune s (pos : Int)).1 < 0)) || (decide ((rRune s (pos : Int)).1 = 65533))) = false → ((((decide (cls ((rRune s (pos : Int)).1) = 0)) && (!decide ((rRune s (pos : Int)).1 = 10))) && ((decide ((rRune s (pos : Int)).1 < 43)) || (decide ((47 : Int) < (rRune s (pos : Int)).1)))) && (!decide ((rRune s (pos : Int)).1 = 58))) = true → True) ∧ (((decide ((rRune s (pos : Int)).1 < 0)) || (decide ((rRune s (pos : Int)).1 = 65533))) = false → True) ∧ (True) ∧ True) hA H ⟨trivial, trivial, trivial, fun _ => trivial, fun _ => trivial, trivial, trivial, fun _ => trivial, fun _ => ⟨callable_of, callOk_of fun w hw => by exact refClass_any ((rRune s (pos : Int)).1) w⟩, fun _ => trivial, fun _ => trivial, fun _ _ => trivial, fun _ _ => trivial, fun _ => trivial, fun _ => trivial, fun _ _ => trivial, fun _ _ => trivial, fun _ _ => trivial, fun _ _ _ => trivial, fun _ _ _ => trivial, fun _ _ => trivial, fun _ => trivial, fun _ => trivial, fun _ _ => trivial, fun _ _ => trivial, fun _ => trivial, fun _ => trivial, fun _ _ => trivial, fun _ _ => trivial, fun _ => trivial, trivial, trivial⟩ fun a w16 hA H hG => ?_
    refine hK15 _ _ ?_
    refine go_cond hA (.tmp 46) (((decide ((rRune s (pos : Int)).1 < 0)) || (decide ((rRune s (pos : Int)).1 = 65533))) || (((((decide (cls ((rRune s (pos : Int)).1) = 0)) && (!decide ((rRune s (pos : Int)).1 = 10))) && ((decide ((rRune s (pos : Int)).1 < 43)) || (decide ((47 : Int) < (rRune s (pos : Int)).1)))) && (!decide ((rRune s (pos : Int)).1 = 58))) && (!decide ((rRune s (pos : Int)).1 = 124)))) (fun hb17 => ?_) (fun hb17 => ?_)
    · have hhb17 := (oT hb17).imp (fun h => (oT h).imp (fun h => of_decide_eq_true h) (fun h => of_decide_eq_true h)) (fun h => (⟨(⟨(⟨(⟨of_decide_eq_true ((aT ((aT ((aT ((aT h).1)).1)).1)).1), of_decide_eq_false (nT ((aT ((aT ((aT ((aT h).1)).1)).1)).2))⟩ : _ ∧ _), (oT ((aT ((aT ((aT h).1)).1)).2)).imp (fun h => of_decide_eq_true h) (fun h => of_decide_eq_true h)⟩ : _ ∧ _), of_decide_eq_false (nT ((aT ((aT h).1)).2))⟩ : _ ∧ _), of_decide_eq_false (nT ((aT h).2))⟩ : _ ∧ _))
      refine go_seq fun K18 hK18 => ?_
      refine q_reg [] [(2, .int .i64 (pos : Int))] ((True) ∧ (True) ∧ True) hA H ⟨trivial, trivial, trivial⟩ fun a w19 hA H hG => ?_
      refine hK18 _ _ ?_
      refine go_ret_ ?_
      refine ret_one 2 (.int .i64 (pos : Int)) hA ?_
      exact ans_i (by rw [← hi]; first | rw [runes_nil s pos (by omega)]; rfl | (rw [runes_cons s pos (by omega)]; simp only [brGo]; rw [if_neg (by unfold okText; omega)])) H.below
    · have hhb17 := (⟨(⟨of_decide_eq_false ((oF ((oF hb17).1)).1), of_decide_eq_false ((oF ((oF hb17).1)).2)⟩ : _ ∧ _), (aF ((oF hb17).2)).imp (fun h => (aF h).imp (fun h => (aF h).imp (fun h => (aF h).imp (fun h => of_decide_eq_false h) (fun h => of_decide_eq_true (nF h))) (fun h => (⟨of_decide_eq_false ((oF h).1), of_decide_eq_false ((oF h).2)⟩ : _ ∧ _))) (fun h => of_decide_eq_true (nF h))) (fun h => of_decide_eq_true (nF h))⟩ : _ ∧ _)
      refine go_skip ?_
      refine hK14 _ _ ?_
      have hw4 := rRune_w s pos
      refine q_reg [] [(0, .string s), (3, .int .i64 ((pos : Int) + ((rRune s (pos : Int)).2)))] ((True) ∧ (True) ∧ (InR .i64 ((pos : Int) + ((rRune s (pos : Int)).2))) ∧ (True) ∧ True) hA H ⟨trivial, trivial, ⟨by omega, by omega⟩, trivial, trivial⟩ fun a w20 hA H hG => ?_
      rw [(rRune_decode s pos).1] at hA
      refine ⟨(pos + (Utf8.decode s pos).2), ⟨env_sub _ hA, ⟨_, H⟩, ?_⟩, ?_⟩
      · (try dsimp only); rw [runes_cons s pos (by omega)] at hi; simp only [brGo] at hi; rw [if_pos (by unfold okText; omega)] at hi; exact hi
      · (try dsimp only); have := width_pos s pos (by omega); omega
  · have hhb11 := of_decide_eq_false hb11
    refine go_exit 0 ?_
    refine hK3 _ _ ?_
    refine go_seq fun K21 hK21 => ?_
    refine q_reg [] [(2, .int .i64 (-1))] ((True) ∧ True) hA H ⟨trivial, trivial⟩ fun a w22 hA H hG => ?_
    refine hK21 _ _ ?_
    refine go_ret_ ?_
    refine ret_one 2 (.int .i64 (-1)) hA ?_
    exact ans_i (by rw [← hi]; first | rw [runes_nil s pos (by omega)]; rfl | (rw [runes_cons s pos (by omega)]; simp only [brGo]; rw [if_neg (by unfold okText; omega)])) H.below

set_option maxRecDepth 100000 in
set_option maxHeartbeats 1000000 in
theorem refNumber_any (s : ByteArray) (w : World) :
  Calls Try.prog 14 [.string s].toArray w (Ans (.int .i64 (refNum s)) w) := by
  refine enter Try.f14 48 Try.func14 fun a hA => ?_
  replace hA := env_sub [(0, .string s)] hA
  have H := Fr.start (org w)
  refine go_seq fun K1 hK1 => ?_
  refine q_reg [] [(0, .string s)] ((True) ∧ True) hA H ⟨trivial, trivial⟩ fun a w2 hA H hG => ?_
  refine hK1 _ _ ?_
  refine go_seq fun K3 hK3 => ?_
  refine go_seq fun K4 hK4 => ?_
  refine q_reg [] [(0, .string s), (22, .bool (((decide ((s.size : Int) < 1)) || (decide ((9 : Int) < (s.size : Int)))) || ((decide (StrAt s 0 = 48)) && (decide ((1 : Int) < (s.size : Int))))))] ((True) ∧ (True) ∧ (True) ∧ (True) ∧ ((decide ((s.size : Int) < 1)) = false → True) ∧ ((decide ((s.size : Int) < 1)) = false → True) ∧ ((decide ((s.size : Int) < 1)) = false → True) ∧ (True) ∧ (True) ∧ (((decide ((s.size : Int) < 1)) || (decide ((9 : Int) < (s.size : Int)))) = false → True) ∧ (((decide ((s.size : Int) < 1)) || (decide ((9 : Int) < (s.size : Int)))) = false → 0 ≤ (0 : Int) ∧ 0 < (s.size : Int)) ∧ (((decide ((s.size : Int) < 1)) || (decide ((9 : Int) < (s.size : Int)))) = false → True) ∧ (((decide ((s.size : Int) < 1)) || (decide ((9 : Int) < (s.size : Int)))) = false → True) ∧ (((decide ((s.size : Int) < 1)) || (decide ((9 : Int) < (s.size : Int)))) = false → (decide (StrAt s 0 = 48)) = true → True) ∧ (((decide ((s.size : Int) < 1)) || (decide ((9 : Int) < (s.size : Int)))) = false → (decide (StrAt s 0 = 48)) = true → True) ∧ (((decide ((s.size : Int) < 1)) || (decide ((9 : Int) < (s.size : Int)))) = false → (decide (StrAt s 0 = 48)) = true → True) ∧ (((decide ((s.size : Int) < 1)) || (decide ((9 : Int) < (s.size : Int)))) = false → True) ∧ (True) ∧ True) hA H ⟨trivial, trivial, trivial, trivial, fun _ => trivial, fun _ => trivial, fun _ => trivial, trivial, trivial, fun _ => trivial, fun hg0 => by replace hg0 := (⟨of_decide_eq_false ((oF hg0).1), of_decide_eq_false ((oF hg0).2)⟩ : _ ∧ _); exact ⟨by omega, by omega⟩, fun _ => trivial, fun _ => trivial, fun _ _ => trivial, fun _ _ => trivial, fun _ _ => trivial, fun _ => trivial, trivial, trivial⟩ fun a w5 hA H hG => ?_
  refine hK4 _ _ ?_
  refine go_cond hA (.tmp 22) (((decide ((s.size : Int) < 1)) || (decide ((9 : Int) < (s.size : Int)))) || ((decide (StrAt s 0 = 48)) && (decide ((1 : Int) < (s.size : Int))))) (fun hb6 => ?_) (fun hb6 => ?_)
  · have hhb6 := (oT hb6).imp (fun h => (oT h).imp (fun h => of_decide_eq_true h) (fun h => of_decide_eq_true h)) (fun h => (⟨of_decide_eq_true ((aT h).1), of_decide_eq_true ((aT h).2)⟩ : _ ∧ _))
    refine go_seq fun K7 hK7 => ?_
    refine q_reg [] [(2, .int .i64 (-1))] ((True) ∧ True) hA H ⟨trivial, trivial⟩ fun a w8 hA H hG => ?_
    refine hK7 _ _ ?_
    refine go_ret_ ?_
    refine ret_one 2 (.int .i64 (-1)) hA ?_
    exact ans_i (by unfold refNum; rw [if_pos (by have := hhb6; omega)]) H.below
  · have hhb6 := (⟨(⟨of_decide_eq_false ((oF ((oF hb6).1)).1), of_decide_eq_false ((oF ((oF hb6).1)).2)⟩ : _ ∧ _), (aF ((oF hb6).2)).imp (fun h => of_decide_eq_false h) (fun h => of_decide_eq_false h)⟩ : _ ∧ _)
    refine go_skip ?_
    refine hK3 _ _ ?_
    refine go_seq fun K9 hK9 => ?_
    refine q_reg [] [(0, .string s), (3, .int .i64 0)] ((True) ∧ True) hA H ⟨trivial, trivial⟩ fun a w10 hA H hG => ?_
    refine hK9 _ _ ?_
    refine go_seq fun K11 hK11 => ?_
    refine go_seq fun K12 hK12 => ?_
    refine q_reg [] [(0, .string s), (3, .int .i64 0), (4, .int .i64 0)] ((True) ∧ True) hA H ⟨trivial, trivial⟩ fun a w13 hA H hG => ?_
    refine hK12 _ _ ?_
    refine go_block 0 ?_
    refine go_loop_ (Nat × Int) (fun x_ a W => (fun (i : Nat) (n : Int) => EnvOk 48 a (keepEnv [(0, .string s), (3, .int .i64 n), (4, .int .i64 (i : Int))]) ∧ (∃ S, Fr (org w) W S []) ∧ i ≤ s.size ∧ 0 ≤ n ∧ n < (10 : Int) ^ i ∧ rnGo s (s.size - i) i n = refNum s) x_.1 x_.2) (fun x_ => (fun (i : Nat) (n : Int) => s.size - i) x_.1 x_.2) (0, 0) ?_ (fun x_ a w15 hI => ?_)
    · (try dsimp only); exact ⟨env_sub _ hA, ⟨_, H⟩, by omega, by omega, by decide, by unfold refNum; rw [if_neg (by have := hhb6; omega)]; rfl⟩
    obtain ⟨i, n⟩ := x_
    obtain ⟨hA, ⟨S, H⟩, h0, h1, h2, hi⟩ := hI
    try dsimp only at h0 h1 h2 hi
    refine go_seq fun K16 hK16 => ?_
    refine go_seq fun K17 hK17 => ?_
    refine q_reg [] [(0, .string s), (3, .int .i64 n), (4, .int .i64 (i : Int)), (26, .bool (decide ((i : Int) < (s.size : Int))))] ((True) ∧ (True) ∧ (True) ∧ (True) ∧ True) hA H ⟨trivial, trivial, trivial, trivial, trivial⟩ fun a w18 hA H hG => ?_
    refine hK17 _ _ ?_
    refine go_cond hA (.tmp 26) (decide ((i : Int) < (s.size : Int))) (fun hb19 => ?_) (fun hb19 => ?_)
    · have hhb19 := of_decide_eq_true hb19
      refine go_skip ?_
      refine hK16 _ _ ?_
      refine go_seq fun K20 hK20 => ?_
      refine go_block 1 ?_
      refine go_seq fun K21 hK21 => ?_
      refine go_seq fun K22 hK22 => ?_
      refine q_reg [] [(0, .string s), (3, .int .i64 n), (4, .int .i64 (i : Int)), (38, .bool ((decide (StrAt s (i : Int) < 48)) || (decide ((57 : Int) < StrAt s (i : Int)))))] ((True) ∧ (True) ∧ (0 ≤ (i : Int) ∧ (i : Int) < (s.size : Int)) ∧ (True) ∧ (True) ∧ ((decide (StrAt s (i : Int) < 48)) = false → True) ∧ ((decide (StrAt s (i : Int) < 48)) = false → True) ∧ ((decide (StrAt s (i : Int) < 48)) = false → 0 ≤ (i : Int) ∧ (i : Int) < (s.size : Int)) ∧ ((decide (StrAt s (i : Int) < 48)) = false → True) ∧ (True) ∧ True) hA H ⟨trivial, trivial, ⟨by omega, by omega⟩, trivial, trivial, fun _ => trivial, fun _ => trivial, fun hg0 => by replace hg0 := of_decide_eq_false hg0; exact ⟨by omega, by omega⟩, fun _ => trivial, trivial, trivial⟩ fun a w23 hA H hG => ?_
      refine hK22 _ _ ?_
      refine go_cond hA (.tmp 38) ((decide (StrAt s (i : Int) < 48)) || (decide ((57 : Int) < StrAt s (i : Int)))) (fun hb24 => ?_) (fun hb24 => ?_)
      · have hhb24 := (oT hb24).imp (fun h => of_decide_eq_true h) (fun h => of_decide_eq_true h)
        refine go_seq fun K25 hK25 => ?_
        refine q_reg [] [(2, .int .i64 (-1))] ((True) ∧ True) hA H ⟨trivial, trivial⟩ fun a w26 hA H hG => ?_
        refine hK25 _ _ ?_
        refine go_ret_ ?_
        refine ret_one 2 (.int .i64 (-1)) hA ?_
        exact ans_i (by rw [← hi]; first | (rw [show s.size - i = 0 from by omega]; rfl) | (rw [show s.size - i = (s.size - (i + 1)) + 1 from by omega]; simp only [rnGo]; rw [if_pos (by omega)])) H.below
      · have hhb24 := (⟨of_decide_eq_false ((oF hb24).1), of_decide_eq_false ((oF hb24).2)⟩ : _ ∧ _)
        refine go_skip ?_
        refine hK21 _ _ ?_
        have hn := pow_le (p := i) (by omega)
        have hb1 := strAt_byte s i
        refine q_reg [] [(0, .string s), (3, .int .i64 (((n * 10) + (StrAt s (i : Int))) - 48)), (4, .int .i64 (i : Int))] ((True) ∧ (InR .i64 (n * 10)) ∧ (True) ∧ (True) ∧ (0 ≤ (i : Int) ∧ (i : Int) < (s.size : Int)) ∧ (InR .i64 (StrAt s (i : Int))) ∧ (InR .i64 ((n * 10) + (StrAt s (i : Int)))) ∧ (InR .i64 (((n * 10) + (StrAt s (i : Int))) - 48)) ∧ (True) ∧ True) hA H ⟨trivial, ⟨by omega, by omega⟩, trivial, trivial, ⟨by omega, by omega⟩, ⟨by omega, by omega⟩, ⟨by omega, by omega⟩, ⟨by omega, by omega⟩, trivial, trivial⟩ fun a w27 hA H hG => ?_
        refine hK20 _ _ ?_
        refine q_reg [] [(0, .string s), (3, .int .i64 (((n * 10) + (StrAt s (i : Int))) - 48)), (4, .int .i64 ((i : Int) + 1))] ((True) ∧ (InR .i64 ((i : Int) + 1)) ∧ (True) ∧ True) hA H ⟨trivial, ⟨by omega, by omega⟩, trivial, trivial⟩ fun a w28 hA H hG => ?_
        refine ⟨(i + 1, ((n * 10) + (StrAt s (i : Int))) - 48), ⟨env_sub _ hA, ⟨_, H⟩, ?_⟩, ?_⟩
        · (try dsimp only); exact ⟨by omega, by have := strAt_byte s i; omega, by have h := pow_up (p := i) (q := i + 1) (n := n) (d := StrAt s i - 48) h2 (by omega) (by omega); omega, by rw [show s.size - i = (s.size - (i + 1)) + 1 from by omega] at hi; simp only [rnGo] at hi; rw [if_neg (by omega)] at hi; exact hi⟩
        · (try dsimp only); omega
    · have hhb19 := of_decide_eq_false hb19
      refine go_exit 0 ?_
      refine hK11 _ _ ?_
      refine go_seq fun K29 hK29 => ?_
      refine q_reg [] [(2, .int .i64 n)] ((True) ∧ (True) ∧ True) hA H ⟨trivial, trivial, trivial⟩ fun a w30 hA H hG => ?_
      refine hK29 _ _ ?_
      refine go_ret_ ?_
      refine ret_one 2 (.int .i64 n) hA ?_
      exact ans_i (by rw [← hi]; first | (rw [show s.size - i = 0 from by omega]; rfl) | (rw [show s.size - i = (s.size - (i + 1)) + 1 from by omega]; simp only [rnGo]; rw [if_pos (by omega)])) H.below

end Go.Proofs.Ytbdgelipabndaaa
