/-
  Walks, written by program: Words, refLines.
-/
import Derived.Test.YtbdgelipabndaaaProg
import Derived.Test.YtbdgelipabndaaaWalkW1
set_option linter.unusedSimpArgs false
set_option linter.unusedVariables false
namespace Go.Proofs.Ytbdgelipabndaaa
open Go.RowKit

set_option maxRecDepth 100000 in
set_option maxHeartbeats 1000000 in
theorem refWords_any (s : ByteArray) (o : Orig) (hs : s.size ≤ 1000000000) :
  Calls Try.prog 12 [.string s].toArray o.w (Giv o (fun S v w' => Rd S w' v (wordsR s))) := by
  refine enter Try.f12 47 Try.func12 fun a hA => ?_
  replace hA := env_sub [(0, .string s)] hA
  have H := Fr.start o
  refine go_seq fun K1 hK1 => ?_
  refine q_reg [] [(0, .string s)] ((True) ∧ True) hA H ⟨trivial, trivial⟩ fun a w2 hA H hG => ?_
  refine hK1 _ _ ?_
  refine go_seq fun K3 hK3 => ?_
  refine q_reg [] [(0, .string s), (3, (.slice none 0 0))] ((True) ∧ True) hA H ⟨trivial, trivial⟩ fun a w4 hA H hG => ?_
  refine hK3 _ _ ?_
  refine go_seq fun K5 hK5 => ?_
  refine go_seq fun K6 hK6 => ?_
  refine q_reg [] [(0, .string s), (3, (.slice none 0 0)), (4, .int .i64 0)] ((True) ∧ True) hA H ⟨trivial, trivial⟩ fun a w7 hA H hG => ?_
  refine hK6 _ _ ?_
  refine go_block 0 ?_
  replace H := H.newRow (α := Int × Int) 32
  refine go_loop_ (Nat × Value × List (Int × Int)) (fun x_ a W => (fun (i : Nat) (v : Value) (l : List (Int × Int)) => EnvOk 47 a (keepEnv [(0, .string s), (3, v), (4, .int .i64 (i : Int))]) ∧ (∃ S, Fr o W S [.row 32 v l]) ∧ i ≤ s.size ∧ l.length ≤ i ∧ l ++ wGo s (s.size - i) i = wordsR s) x_.1 x_.2.1 x_.2.2) (fun x_ => (fun (i : Nat) (v : Value) (l : List (Int × Int)) => s.size - i) x_.1 x_.2.1 x_.2.2) (0, .slice none 0 0, []) ?_ (fun x_ a w9 hI => ?_)
  · (try dsimp only); exact ⟨env_sub _ hA, ⟨_, H⟩, by omega, by simp, rfl⟩
  obtain ⟨i, v, l⟩ := x_
  obtain ⟨hA, ⟨S, H⟩, h0, h1, hi⟩ := hI
  try dsimp only at h0 h1 hi
  refine go_seq fun K10 hK10 => ?_
  refine go_seq fun K11 hK11 => ?_
  refine q_reg [] [(0, .string s), (3, v), (4, .int .i64 (i : Int)), (9, .bool (decide ((i : Int) < (s.size : Int))))] ((True) ∧ (True) ∧ (True) ∧ (True) ∧ True) hA H ⟨trivial, trivial, trivial, trivial, trivial⟩ fun a w12 hA H hG => ?_
  refine hK11 _ _ ?_
  refine go_cond hA (.tmp 9) (decide ((i : Int) < (s.size : Int))) (fun hb13 => ?_) (fun hb13 => ?_)
  · have hhb13 := of_decide_eq_true hb13
    refine go_skip ?_
    refine hK10 _ _ ?_
    refine go_seq fun K14 hK14 => ?_
    refine go_block 1 ?_
    refine go_seq fun K15 hK15 => ?_
    refine go_seq fun K16 hK16 => ?_
    refine q_reg [] [(0, .string s), (3, v), (4, .int .i64 (i : Int)), (26, .bool ((decide (StrAt s (i : Int) = 32)) || ((decide ((0 : Int) < (i : Int))) && (!decide (StrAt s ((i : Int) - 1) = 32)))))] ((True) ∧ (True) ∧ (0 ≤ (i : Int) ∧ (i : Int) < (s.size : Int)) ∧ (True) ∧ (True) ∧ ((decide (StrAt s (i : Int) = 32)) = false → True) ∧ ((decide (StrAt s (i : Int) = 32)) = false → True) ∧ ((decide (StrAt s (i : Int) = 32)) = false → True) ∧ ((decide (StrAt s (i : Int) = 32)) = false → (decide ((0 : Int) < (i : Int))) = true → True) ∧ ((decide (StrAt s (i : Int) = 32)) = false → (decide ((0 : Int) < (i : Int))) = true → True) ∧ ((decide (StrAt s (i : Int) = 32)) = false → (decide ((0 : Int) < (i : Int))) = true → InR .i64 ((i : Int) - 1)) ∧ ((decide (StrAt s (i : Int) = 32)) = false → (decide ((0 : Int) < (i : Int))) = true → 0 ≤ (i : Int) - 1 ∧ (i : Int) - 1 < (s.size : Int)) ∧ ((decide (StrAt s (i : Int) = 32)) = false → (decide ((0 : Int) < (i : Int))) = true → True) ∧ ((decide (StrAt s (i : Int) = 32)) = false → True) ∧ (True) ∧ True) hA H ⟨trivial, trivial, ⟨by omega, by omega⟩, trivial, trivial, fun _ => trivial, fun _ => trivial, fun _ => trivial, fun _ _ => trivial, fun _ _ => trivial, fun hg0 hg1 => by replace hg0 := of_decide_eq_false hg0; replace hg1 := of_decide_eq_true hg1; exact ⟨by omega, by omega⟩, fun hg0 hg1 => by replace hg0 := of_decide_eq_false hg0; replace hg1 := of_decide_eq_true hg1; exact ⟨by omega, by omega⟩, fun _ _ => trivial, fun _ => trivial, trivial, trivial⟩ fun a w17 hA H hG => ?_
    refine hK16 _ _ ?_
    refine go_cond hA (.tmp 26) ((decide (StrAt s (i : Int) = 32)) || ((decide ((0 : Int) < (i : Int))) && (!decide (StrAt s ((i : Int) - 1) = 32)))) (fun hb18 => ?_) (fun hb18 => ?_)
    · have hhb18 := (oT hb18).imp (fun h => of_decide_eq_true h) (fun h => (⟨of_decide_eq_true ((aT h).1), of_decide_eq_false (nT ((aT h).2))⟩ : _ ∧ _))
      refine go_exit 1 ?_
      refine hK14 _ _ ?_
      refine q_reg [] [(0, .string s), (3, v), (4, .int .i64 ((i : Int) + 1))] ((True) ∧ (InR .i64 ((i : Int) + 1)) ∧ (True) ∧ True) hA H ⟨trivial, ⟨by omega, by omega⟩, trivial, trivial⟩ fun a w19 hA H hG => ?_
      refine ⟨(i + 1, v, l), ⟨env_sub _ hA, ⟨_, H⟩, ?_⟩, ?_⟩
      · (try dsimp only); exact ⟨by omega, by first | omega | (rw [List.length_append, List.length_cons, List.length_nil]; omega), by rw [show s.size - i = (s.size - (i + 1)) + 1 from by omega] at hi; simp only [wGo] at hi; rw [if_pos (by omega)] at hi; exact hi⟩
      · (try dsimp only); omega
    · have hhb18 := (⟨of_decide_eq_false ((oF hb18).1), (aF ((oF hb18).2)).imp (fun h => of_decide_eq_false h) (fun h => of_decide_eq_true (nF h))⟩ : _ ∧ _)
      refine go_skip ?_
      refine hK15 _ _ ?_
      refine go_seq fun K20 hK20 => ?_
      refine q_reg [] [(0, .string s), (3, v), (4, .int .i64 (i : Int)), (5, .int .i64 (i : Int))] ((True) ∧ (True) ∧ True) hA H ⟨trivial, trivial, trivial⟩ fun a w21 hA H hG => ?_
      refine hK20 _ _ ?_
      refine go_seq fun K22 hK22 => ?_
      refine go_block 2 ?_
      refine go_loop_ (Nat) (fun x_ a W => (fun (k : Nat) => EnvOk 47 a (keepEnv [(0, .string s), (3, v), (4, .int .i64 (i : Int)), (5, .int .i64 (k : Int))]) ∧ (∃ S, Fr o W S [.row 32 v l]) ∧ i ≤ k ∧ k ≤ s.size ∧ wEnd s (s.size - k) k = wEnd s (s.size - i) i) x_) (fun x_ => (fun (k : Nat) => s.size - k) x_) (i) ?_ (fun k a w24 hI => ?_)
      · (try dsimp only); exact ⟨env_sub _ hA, ⟨_, H⟩, by omega, by omega, rfl⟩
      obtain ⟨hA, ⟨S, H⟩, k0, k1, hk⟩ := hI
      try dsimp only at k0 k1 hk
      refine go_seq fun K25 hK25 => ?_
      refine go_seq fun K26 hK26 => ?_
      refine q_reg [] [(0, .string s), (3, v), (4, .int .i64 (i : Int)), (5, .int .i64 (k : Int)), (37, .bool ((decide ((k : Int) < (s.size : Int))) && (!decide (StrAt s (k : Int) = 32))))] ((True) ∧ (True) ∧ (True) ∧ (True) ∧ (True) ∧ ((decide ((k : Int) < (s.size : Int))) = true → True) ∧ ((decide ((k : Int) < (s.size : Int))) = true → True) ∧ ((decide ((k : Int) < (s.size : Int))) = true → 0 ≤ (k : Int) ∧ (k : Int) < (s.size : Int)) ∧ ((decide ((k : Int) < (s.size : Int))) = true → True) ∧ (True) ∧ True) hA H ⟨trivial, trivial, trivial, trivial, trivial, fun _ => trivial, fun _ => trivial, fun hg0 => by replace hg0 := of_decide_eq_true hg0; exact ⟨by omega, by omega⟩, fun _ => trivial, trivial, trivial⟩ fun a w27 hA H hG => ?_
      refine hK26 _ _ ?_
      refine go_cond hA (.tmp 37) ((decide ((k : Int) < (s.size : Int))) && (!decide (StrAt s (k : Int) = 32))) (fun hb28 => ?_) (fun hb28 => ?_)
      · have hhb28 := (⟨of_decide_eq_true ((aT hb28).1), of_decide_eq_false (nT ((aT hb28).2))⟩ : _ ∧ _)
        refine go_skip ?_
        refine hK25 _ _ ?_
        refine go_block 3 ?_
        refine q_reg [] [(0, .string s), (3, v), (4, .int .i64 (i : Int)), (5, .int .i64 ((k : Int) + 1))] ((True) ∧ (InR .i64 ((k : Int) + 1)) ∧ (True) ∧ True) hA H ⟨trivial, ⟨by omega, by omega⟩, trivial, trivial⟩ fun a w29 hA H hG => ?_
        refine ⟨(k + 1), ⟨env_sub _ hA, ⟨_, H⟩, ?_⟩, ?_⟩
        · (try dsimp only); exact ⟨by omega, by omega, by rw [show s.size - k = (s.size - (k + 1)) + 1 from by omega] at hk; simp only [wEnd] at hk; rw [if_neg (by have := hhb28; omega)] at hk; exact hk⟩
        · (try dsimp only); have := hhb28; omega
      · have hhb28 := (aF hb28).imp (fun h => of_decide_eq_false h) (fun h => of_decide_eq_true (nF h))
        refine go_exit 2 ?_
        refine hK22 _ _ ?_
        have hk2 : k = wEnd s (s.size - i) i := by
          rw [← hk]
          by_cases e : k < s.size
          · rw [show s.size - k = (s.size - (k + 1)) + 1 from by omega]; simp only [wEnd]; rw [if_pos (by have := hhb28; omega)]
          · rw [show s.size - k = 0 from by omega]; rfl
        refine region_list ?_
        refine q_list 0 4 [(43, .agg #[.int .i64 (i : Int), .int .i64 (k : Int)])] [(0, .string s), (4, .int .i64 (i : Int)), (40, v), (43, .agg #[.int .i64 (i : Int), .int .i64 (k : Int)])] ((True) ∧ (True) ∧ (True) ∧ (∀ w, (Instr.build 32 #[(0, .int .i64 (i : Int)), (1, .int .i64 (k : Int))]).run Try.prog w = .ok (.agg #[.int .i64 (i : Int), .int .i64 (k : Int)]) w) ∧ True) hA H ⟨trivial, trivial, trivial, fun w => by kernel_rfl, trivial⟩ fun a w30 hA H hG => ?_
        refine list_at 4 ?_; refine q_lit 4 44 29 1 #[(0, .tmp 43)] 32 [(0, .agg #[.int .i64 (i : Int), .int .i64 (k : Int)])] [.int .i64 (i : Int), .int .i64 (k : Int)] [(0, .string s), (4, .int .i64 (i : Int)), (40, v)] hA H fun b31 a w32 H hA hG hge_b31 => ?_
        clear hge_b31
        refine list_at 5 ?_; refine q_push 5 45 (.tmp 40) (.tmp 44) 1 0 b31 1 1 v l [((i : Int), (k : Int))] [.int .i64 (i : Int), .int .i64 (k : Int)] [(0, .string s), (4, .int .i64 (i : Int))] hA H Try.E29 rfl rfl (by exact (RowRd.single (α := Int × Int) ⟨[_], _, rfl, rfl, rfl⟩)) rfl (by simp only [List.length_cons, List.length_nil, List.length_append]; omega) (by decide) fun v33 a w34 H hA hG => ?_
        replace H : Fr _ _ _ [.row 32 v33 (l ++ [((i : Int), (k : Int))])] := H.drop 0
        refine q_list 6 1 [] [(0, .string s), (3, v33), (4, .int .i64 (i : Int))] ((True) ∧ True) hA H ⟨trivial, trivial⟩ fun a w35 hA H hG => ?_
        refine list_end ?_
        refine hK14 _ _ ?_
        refine q_reg [] [(0, .string s), (3, v33), (4, .int .i64 ((i : Int) + 1))] ((True) ∧ (InR .i64 ((i : Int) + 1)) ∧ (True) ∧ True) hA H ⟨trivial, ⟨by omega, by omega⟩, trivial, trivial⟩ fun a w36 hA H hG => ?_
        refine ⟨(i + 1, v33, l ++ [((i : Int), (k : Int))]), ⟨env_sub _ hA, ⟨_, H⟩, ?_⟩, ?_⟩
        · (try dsimp only); exact ⟨by omega, by first | omega | (rw [List.length_append, List.length_cons, List.length_nil]; omega), by rw [show s.size - i = (s.size - (i + 1)) + 1 from by omega] at hi; simp only [wGo] at hi; rw [if_neg (by omega), show (s.size - (i + 1)) + 1 = s.size - i from by omega] at hi; rw [List.append_assoc]; simp only [List.cons_append, List.nil_append]; rw [← hi, hk2]⟩
        · (try dsimp only); omega
  · have hhb13 := of_decide_eq_false hb13
    refine go_exit 0 ?_
    refine hK5 _ _ ?_
    refine go_seq fun K37 hK37 => ?_
    refine q_reg [] [(2, v)] ((True) ∧ (True) ∧ True) hA H ⟨trivial, trivial, trivial⟩ fun a w38 hA H hG => ?_
    refine hK37 _ _ ?_
    refine go_ret_ ?_
    refine ret_one 2 v hA ?_
    have ho := H.give 0 rfl
    rw [show s.size - i = 0 from by omega] at hi; simp only [wGo, List.append_nil] at hi; rw [hi] at ho; exact ⟨_, rfl, ho, H.below⟩

set_option maxRecDepth 100000 in
set_option maxHeartbeats 1000000 in
theorem refLines_any (s : ByteArray) (o : Orig) (hs : s.size ≤ 1000000000) :
  Calls Try.prog 21 [.string s].toArray o.w (Giv o (fun S v w' => Rd S w' v (linesR s))) := by
  refine enter Try.f21 36 Try.func21 fun a hA => ?_
  replace hA := env_sub [(0, .string s)] hA
  have H := Fr.start o
  refine go_seq fun K1 hK1 => ?_
  refine q_reg [] [(0, .string s)] ((True) ∧ True) hA H ⟨trivial, trivial⟩ fun a w2 hA H hG => ?_
  refine hK1 _ _ ?_
  refine go_seq fun K3 hK3 => ?_
  refine q_reg [] [(0, .string s), (3, (.slice none 0 0))] ((True) ∧ True) hA H ⟨trivial, trivial⟩ fun a w4 hA H hG => ?_
  refine hK3 _ _ ?_
  refine go_seq fun K5 hK5 => ?_
  refine q_reg [] [(0, .string s), (3, (.slice none 0 0)), (4, .int .i64 0)] ((True) ∧ True) hA H ⟨trivial, trivial⟩ fun a w6 hA H hG => ?_
  refine hK5 _ _ ?_
  refine go_seq fun K7 hK7 => ?_
  refine go_seq fun K8 hK8 => ?_
  refine q_reg [] [(0, .string s), (3, (.slice none 0 0)), (4, .int .i64 0), (5, .int .i64 0)] ((True) ∧ True) hA H ⟨trivial, trivial⟩ fun a w9 hA H hG => ?_
  refine hK8 _ _ ?_
  refine go_block 0 ?_
  replace H := H.newRow (α := Int × Int) 32
  refine go_loop_ (Nat × Value × List (Int × Int) × Int) (fun x_ a W => (fun (i : Nat) (v : Value) (l : List (Int × Int)) (f : Int) => EnvOk 36 a (keepEnv [(0, .string s), (3, v), (4, .int .i64 f), (5, .int .i64 (i : Int))]) ∧ (∃ S, Fr o W S [.row 32 v l]) ∧ i ≤ s.size ∧ l.length ≤ i ∧ 0 ≤ f ∧ f ≤ (i : Int) ∧ l ++ lGo s (s.size - i) i f = linesR s) x_.1 x_.2.1 x_.2.2.1 x_.2.2.2) (fun x_ => (fun (i : Nat) (v : Value) (l : List (Int × Int)) (f : Int) => s.size - i) x_.1 x_.2.1 x_.2.2.1 x_.2.2.2) (0, .slice none 0 0, [], 0) ?_ (fun x_ a w11 hI => ?_)
  · (try dsimp only); exact ⟨env_sub _ hA, ⟨_, H⟩, by omega, by simp, by omega, by omega, rfl⟩
  obtain ⟨i, v, l, f⟩ := x_
  obtain ⟨hA, ⟨S, H⟩, h0, h1, h2, h3, hi⟩ := hI
  try dsimp only at h0 h1 h2 h3 hi
  refine go_seq fun K12 hK12 => ?_
  refine go_seq fun K13 hK13 => ?_
  refine q_reg [] [(0, .string s), (3, v), (4, .int .i64 f), (5, .int .i64 (i : Int)), (9, .bool (decide ((i : Int) < (s.size : Int))))] ((True) ∧ (True) ∧ (True) ∧ (True) ∧ True) hA H ⟨trivial, trivial, trivial, trivial, trivial⟩ fun a w14 hA H hG => ?_
  refine hK13 _ _ ?_
  refine go_cond hA (.tmp 9) (decide ((i : Int) < (s.size : Int))) (fun hb15 => ?_) (fun hb15 => ?_)
  · have hhb15 := of_decide_eq_true hb15
    refine go_skip ?_
    refine hK12 _ _ ?_
    refine go_seq fun K16 hK16 => ?_
    refine go_block 1 ?_
    refine go_seq fun K17 hK17 => ?_
    refine q_reg [] [(0, .string s), (3, v), (4, .int .i64 f), (5, .int .i64 (i : Int)), (15, .bool (decide (StrAt s (i : Int) = 10)))] ((True) ∧ (True) ∧ (0 ≤ (i : Int) ∧ (i : Int) < (s.size : Int)) ∧ (True) ∧ True) hA H ⟨trivial, trivial, ⟨by omega, by omega⟩, trivial, trivial⟩ fun a w18 hA H hG => ?_
    refine hK17 _ _ ?_
    refine go_cond hA (.tmp 15) (decide (StrAt s (i : Int) = 10)) (fun hb19 => ?_) (fun hb19 => ?_)
    · have hhb19 := of_decide_eq_true hb19
      refine go_seq fun K20 hK20 => ?_
      refine region_list ?_
      refine q_list 0 4 [(19, .agg #[.int .i64 f, .int .i64 (i : Int)])] [(0, .string s), (5, .int .i64 (i : Int)), (16, v), (19, .agg #[.int .i64 f, .int .i64 (i : Int)])] ((True) ∧ (True) ∧ (True) ∧ (∀ w, (Instr.build 32 #[(0, .int .i64 f), (1, .int .i64 (i : Int))]).run Try.prog w = .ok (.agg #[.int .i64 f, .int .i64 (i : Int)]) w) ∧ True) hA H ⟨trivial, trivial, trivial, fun w => by kernel_rfl, trivial⟩ fun a w21 hA H hG => ?_
      refine list_at 4 ?_; refine q_lit 4 20 29 1 #[(0, .tmp 19)] 32 [(0, .agg #[.int .i64 f, .int .i64 (i : Int)])] [.int .i64 f, .int .i64 (i : Int)] [(0, .string s), (5, .int .i64 (i : Int)), (16, v)] hA H fun b22 a w23 H hA hG hge_b22 => ?_
      clear hge_b22
      refine list_at 5 ?_; refine q_push 5 21 (.tmp 16) (.tmp 20) 1 0 b22 1 1 v l [(f, (i : Int))] [.int .i64 f, .int .i64 (i : Int)] [(0, .string s), (5, .int .i64 (i : Int))] hA H Try.E29 rfl rfl (by exact (RowRd.single (α := Int × Int) ⟨[_], _, rfl, rfl, rfl⟩)) rfl (by simp only [List.length_cons, List.length_nil, List.length_append]; omega) (by decide) fun v24 a w25 H hA hG => ?_
      replace H : Fr _ _ _ [.row 32 v24 (l ++ [(f, (i : Int))])] := H.drop 0
      refine q_list 6 1 [] [(0, .string s), (3, v24), (5, .int .i64 (i : Int))] ((True) ∧ True) hA H ⟨trivial, trivial⟩ fun a w26 hA H hG => ?_
      refine list_end ?_
      refine hK20 _ _ ?_
      refine q_reg [] [(0, .string s), (3, v24), (4, .int .i64 ((i : Int) + 1)), (5, .int .i64 (i : Int))] ((True) ∧ (InR .i64 ((i : Int) + 1)) ∧ (True) ∧ True) hA H ⟨trivial, ⟨by omega, by omega⟩, trivial, trivial⟩ fun a w27 hA H hG => ?_
      refine hK16 _ _ ?_
      refine q_reg [] [(0, .string s), (3, v24), (4, .int .i64 ((i : Int) + 1)), (5, .int .i64 ((i : Int) + 1))] ((True) ∧ (InR .i64 ((i : Int) + 1)) ∧ (True) ∧ True) hA H ⟨trivial, ⟨by omega, by omega⟩, trivial, trivial⟩ fun a w28 hA H hG => ?_
      refine ⟨(i + 1, v24, l ++ [(f, (i : Int))], (i : Int) + 1), ⟨env_sub _ hA, ⟨_, H⟩, ?_⟩, ?_⟩
      · (try dsimp only); exact ⟨by omega, by first | omega | (rw [List.length_append, List.length_cons, List.length_nil]; omega), by omega, by omega, by rw [show s.size - i = (s.size - (i + 1)) + 1 from by omega] at hi; simp only [lGo] at hi; rw [if_pos (by omega)] at hi; rw [List.append_assoc]; exact hi⟩
      · (try dsimp only); omega
    · have hhb19 := of_decide_eq_false hb19
      refine go_skip ?_
      refine hK16 _ _ ?_
      refine q_reg [] [(0, .string s), (3, v), (4, .int .i64 f), (5, .int .i64 ((i : Int) + 1))] ((True) ∧ (InR .i64 ((i : Int) + 1)) ∧ (True) ∧ True) hA H ⟨trivial, ⟨by omega, by omega⟩, trivial, trivial⟩ fun a w29 hA H hG => ?_
      refine ⟨(i + 1, v, l, f), ⟨env_sub _ hA, ⟨_, H⟩, ?_⟩, ?_⟩
      · (try dsimp only); exact ⟨by omega, by first | omega | (rw [List.length_append, List.length_cons, List.length_nil]; omega), by omega, by omega, by rw [show s.size - i = (s.size - (i + 1)) + 1 from by omega] at hi; simp only [lGo] at hi; rw [if_neg (by omega)] at hi; exact hi⟩
      · (try dsimp only); omega
  · have hhb15 := of_decide_eq_false hb15
    refine go_exit 0 ?_
    refine hK7 _ _ ?_
    refine go_seq fun K30 hK30 => ?_
    refine go_seq fun K31 hK31 => ?_
    refine q_reg [] [(0, .string s), (3, v), (4, .int .i64 f), (27, .bool (decide (f < (s.size : Int))))] ((True) ∧ (True) ∧ (True) ∧ (True) ∧ True) hA H ⟨trivial, trivial, trivial, trivial, trivial⟩ fun a w32 hA H hG => ?_
    refine hK31 _ _ ?_
    refine go_cond hA (.tmp 27) (decide (f < (s.size : Int))) (fun hb33 => ?_) (fun hb33 => ?_)
    · have hhb33 := of_decide_eq_true hb33
      refine region_list ?_
      refine q_list 0 5 [(32, .agg #[.int .i64 f, .int .i64 (s.size : Int)])] [(28, v), (32, .agg #[.int .i64 f, .int .i64 (s.size : Int)])] ((True) ∧ (True) ∧ (True) ∧ (True) ∧ (∀ w, (Instr.build 32 #[(0, .int .i64 f), (1, .int .i64 (s.size : Int))]).run Try.prog w = .ok (.agg #[.int .i64 f, .int .i64 (s.size : Int)]) w) ∧ True) hA H ⟨trivial, trivial, trivial, trivial, fun w => by kernel_rfl, trivial⟩ fun a w34 hA H hG => ?_
      refine list_at 5 ?_; refine q_lit 5 33 29 1 #[(0, .tmp 32)] 32 [(0, .agg #[.int .i64 f, .int .i64 (s.size : Int)])] [.int .i64 f, .int .i64 (s.size : Int)] [(28, v)] hA H fun b35 a w36 H hA hG hge_b35 => ?_
      clear hge_b35
      refine list_at 6 ?_; refine q_push 6 34 (.tmp 28) (.tmp 33) 1 0 b35 1 1 v l [(f, (s.size : Int))] [.int .i64 f, .int .i64 (s.size : Int)] [] hA H Try.E29 rfl rfl (by exact (RowRd.single (α := Int × Int) ⟨[_], _, rfl, rfl, rfl⟩)) rfl (by simp only [List.length_cons, List.length_nil, List.length_append]; omega) (by decide) fun v37 a w38 H hA hG => ?_
      replace H : Fr _ _ _ [.row 32 v37 (l ++ [(f, (s.size : Int))])] := H.drop 0
      refine q_list 7 1 [] [(3, v37)] ((True) ∧ True) hA H ⟨trivial, trivial⟩ fun a w39 hA H hG => ?_
      refine list_end ?_
      refine hK30 _ _ ?_
      refine go_seq fun K40 hK40 => ?_
      refine q_reg [] [(2, v37)] ((True) ∧ (True) ∧ True) hA H ⟨trivial, trivial, trivial⟩ fun a w41 hA H hG => ?_
      refine hK40 _ _ ?_
      refine go_ret_ ?_
      refine ret_one 2 v37 hA ?_
      have ho := H.give 0 rfl
      rw [show s.size - i = 0 from by omega] at hi; simp only [lGo] at hi; first | rw [if_pos (by omega)] at hi | (rw [if_neg (by omega)] at hi; rw [List.append_nil] at hi)
      rw [hi] at ho; exact ⟨_, rfl, ho, H.below⟩
    · have hhb33 := of_decide_eq_false hb33
      refine go_skip ?_
      refine hK30 _ _ ?_
      refine go_seq fun K42 hK42 => ?_
      refine q_reg [] [(2, v)] ((True) ∧ (True) ∧ True) hA H ⟨trivial, trivial, trivial⟩ fun a w43 hA H hG => ?_
      refine hK42 _ _ ?_
      refine go_ret_ ?_
      refine ret_one 2 v hA ?_
      have ho := H.give 0 rfl
      rw [show s.size - i = 0 from by omega] at hi; simp only [lGo] at hi; first | rw [if_pos (by omega)] at hi | (rw [if_neg (by omega)] at hi; rw [List.append_nil] at hi)
      rw [hi] at ho; exact ⟨_, rfl, ho, H.below⟩

end Go.Proofs.Ytbdgelipabndaaa
