/-
  Walks, written by program: WordWhole.
-/
import Derived.Test.YtbdgelipabndaaaProg
import Derived.Test.YtbdgelipabndaaaWalkL1
import Derived.Test.YtbdgelipabndaaaWordH
import Derived.Test.YtbdgelipabndaaaEngG
set_option linter.unusedSimpArgs false
set_option linter.unusedVariables false
namespace Go.Proofs.Ytbdgelipabndaaa
open Go.RowKit

set_option maxRecDepth 100000 in
set_option maxHeartbeats 1000000 in
theorem wordWhole_any (s : ByteArray) (w : World) :
  Calls Try.prog 3 [.string s].toArray w (Ans (.bool true) w) := by
  have hlen := words_len s
  refine enter Try.f3 116 Try.func3 fun a hA => ?_
  replace hA := env_sub [(0, .string s)] hA
  have H := Fr.start (org w)
  refine go_seq fun K1 hK1 => ?_
  refine q_reg [] [(0, .string s)] ((True) ∧ True) hA H ⟨trivial, trivial⟩ fun a w2 hA H _ => ?_
  refine hK1 _ _ ?_
  refine go_seq fun K3 hK3 => ?_
  refine go_seq fun K4 hK4 => ?_
  refine q_reg [(10, .bool true)] [(0, .string s), (16, .bool (decide ((3000 : Int) < (s.size : Int))))] ((Callable Try.prog 9 ∧ CallOk Try.prog (On w2) 9 [].toArray (.bool true)) ∧ (True) ∧ (True) ∧ ((false) = false → True) ∧ ((false) = false → True) ∧ ((false) = false → True) ∧ (True) ∧ True) hA H ⟨⟨callable_of, callOk_of fun w hw => by exact awake_any w⟩, trivial, trivial, fun _ => trivial, fun _ => trivial, fun _ => trivial, trivial, trivial⟩ fun a w5 hA H _ => ?_
  refine hK4 _ _ ?_
  refine go_cond hA (.tmp 16) (decide ((3000 : Int) < (s.size : Int))) (fun hb6 => ?_) (fun hb6 => ?_)
  · have hhb6 := of_decide_eq_true hb6
    refine go_seq fun K7 hK7 => ?_
    refine q_reg [(17, .bool true)] [(2, .bool true)] ((Callable Try.prog 9 ∧ CallOk Try.prog (On w5) 9 [].toArray (.bool true)) ∧ (True) ∧ True) hA H ⟨⟨callable_of, callOk_of fun w hw => by exact awake_any w⟩, trivial, trivial⟩ fun a w8 hA H _ => ?_
    refine hK7 _ _ ?_
    refine go_ret_ ?_
    refine ret_one 2 (.bool true) hA ?_
    exact ans_b rfl H.below
  · have hhb6 := of_decide_eq_false hb6
    refine go_skip ?_
    refine hK3 _ _ ?_
    refine go_seq fun K9 hK9 => ?_
    refine q_reg [] [(0, .string s), (3, .int .i64 0)] ((True) ∧ True) hA H ⟨trivial, trivial⟩ fun a w10 hA H _ => ?_
    refine hK9 _ _ ?_
    refine go_seq fun K11 hK11 => ?_
    refine region_list ?_
    refine q_list 0 1 [] [(0, .string s), (3, .int .i64 0), (18, .string s)] ((True) ∧ True) hA H ⟨trivial, trivial⟩ fun a w12 hA H _ => ?_
    refine q_call 1 19 10 #[.tmp 18] #[9] [.string s] (fun S v w' => Rd S w' v (wordsB s)) [(0, .string s), (3, .int .i64 0)] hA H (by exact split_any s H.at (by omega)) fun v13 a w14 S hR15 H hA => ?_
    replace H := H.ro hR15
    refine q_list 2 1 [] [(0, .string s), (3, .int .i64 0), (4, v13)] ((True) ∧ True) hA H ⟨trivial, trivial⟩ fun a w17 hA H _ => ?_
    refine list_end ?_
    refine hK11 _ _ ?_
    refine go_seq fun K18 hK18 => ?_
    refine go_seq fun K19 hK19 => ?_
    refine q_reg [] [(0, .string s), (3, .int .i64 0), (4, v13), (5, .int .i64 0)] ((True) ∧ True) hA H ⟨trivial, trivial⟩ fun a w20 hA H _ => ?_
    refine hK19 _ _ ?_
    refine go_block 0 ?_
    refine go_loop_ (Int × Int) (fun x a W => (fun (i : Int) (p : Int) => EnvOk 116 a (keepEnv [(0, .string s), (3, .int .i64 p), (4, v13), (5, .int .i64 i)]) ∧ (∃ S, Fr (org w) W S [.ro v13 (wordsB s)]) ∧ 0 ≤ i ∧ 0 ≤ p ∧ p ≤ (s.size : Int) ∧ CovAt s i p) x.1 x.2) (fun x => (fun (i : Int) (p : Int) => (((wordsB s).length : Int) - i).toNat) x.1 x.2) (0, 0) ?_ (fun x a w22 hI => ?_)
    · (try dsimp only); exact ⟨env_sub _ hA, ⟨_, H⟩, by omega, by omega, by omega, cov_0 s⟩
    obtain ⟨i, p⟩ := x
    obtain ⟨hA, ⟨S, H⟩, h1, h2, h3, hc⟩ := hI
    try dsimp only at h1 h2 h3 hc
    refine go_seq fun K23 hK23 => ?_
    refine go_seq fun K24 hK24 => ?_
    refine q_reg [(22, .int .i64 ((wordsB s).length : Int))] [(0, .string s), (3, .int .i64 p), (4, v13), (5, .int .i64 i), (23, .bool (decide (i < ((wordsB s).length : Int))))] ((True) ∧ (True) ∧ (LenOk v13 ((wordsB s).length : Int)) ∧ (True) ∧ True) hA H ⟨trivial, trivial, by exact len_ok (H.get 0 rfl), trivial, trivial⟩ fun a w25 hA H _ => ?_
    refine hK24 _ _ ?_
    refine go_cond hA (.tmp 23) (decide (i < ((wordsB s).length : Int))) (fun hb26 => ?_) (fun hb26 => ?_)
    · have hhb26 := of_decide_eq_true hb26
      refine go_skip ?_
      refine hK23 _ _ ?_
      refine go_seq fun K27 hK27 => ?_
      refine go_block 1 ?_
      refine go_seq fun K28 hK28 => ?_
      refine region_list ?_
      refine q_list 0 4 [(29, .agg #[.int .i64 (((wordsB s).getD i.toNat (0, ⟨#[]⟩)).1), .string (((wordsB s).getD i.toNat (0, ⟨#[]⟩)).2)])] [(0, .string s), (3, .int .i64 p), (4, v13), (5, .int .i64 i), (29, .agg #[.int .i64 (((wordsB s).getD i.toNat (0, ⟨#[]⟩)).1), .string (((wordsB s).getD i.toNat (0, ⟨#[]⟩)).2)])] ((True) ∧ (True) ∧ ((Try.prog.info? 26).isSome = true ∧ IdxOk v13 i) ∧ ((Try.prog.info? 26).isSome = true ∧ RowOk (On w25) (hdB v13) (hdO v13 + i.toNat * 2) (Try.prog.cellsOf 26) #[.int .i64 (((wordsB s).getD i.toNat (0, ⟨#[]⟩)).1), .string (((wordsB s).getD i.toNat (0, ⟨#[]⟩)).2)]) ∧ True) hA H ⟨trivial, trivial, ⟨by kernel_rfl, by exact idx_ok (H.get 0 rfl) (by omega) (by omega)⟩, ⟨by kernel_rfl, by exact row_flat (i := i) (H.get 0 rfl) (by omega) (by omega) (0, ⟨#[]⟩)⟩, trivial⟩ fun a w29 hA H _ => ?_
      refine q_alloc 4 6 26 [.int .i64 0, .string (⟨#[]⟩)] [(0, .string s), (3, .int .i64 p), (4, v13), (5, .int .i64 i), (29, .agg #[.int .i64 (((wordsB s).getD i.toNat (0, ⟨#[]⟩)).1), .string (((wordsB s).getD i.toNat (0, ⟨#[]⟩)).2)])] hA H fun b30 a w31 H hA => ?_
      refine q_store 5 26 (.tmp 6) (.tmp 29) 0 b30 (0) 26 [.int .i64 0, .string (⟨#[]⟩)] [.int .i64 (((wordsB s).getD i.toNat (0, ⟨#[]⟩)).1), .string (((wordsB s).getD i.toNat (0, ⟨#[]⟩)).2)] [.int .i64 (((wordsB s).getD i.toNat (0, ⟨#[]⟩)).1), .string (((wordsB s).getD i.toNat (0, ⟨#[]⟩)).2)] (.agg #[.int .i64 (((wordsB s).getD i.toNat (0, ⟨#[]⟩)).1), .string (((wordsB s).getD i.toNat (0, ⟨#[]⟩)).2)]) [(0, .string s), (3, .int .i64 p), (4, v13), (5, .int .i64 i), (6, .pointer (some ⟨b30, 0, none⟩))] hA H rfl rfl (Nat.le_of_ble_eq_true (by kernel_rfl)) rfl (fun v hv => by simp only [List.mem_cons, List.not_mem_nil, or_false] at hv; (rcases hv with rfl | rfl) <;> rfl) fun a w32 H hA => ?_
      replace H : Fr _ _ _ [.box b30 26 [.int .i64 (((wordsB s).getD i.toNat (0, ⟨#[]⟩)).1), .string (((wordsB s).getD i.toNat (0, ⟨#[]⟩)).2)], .ro v13 (wordsB s)] := H
      refine list_end ?_
      refine hK28 _ _ ?_
      refine go_seq fun K33 hK33 => ?_
      refine go_seq fun K34 hK34 => ?_
      obtain ⟨q1, q2, q3, q4, q5, q6, q7, q8⟩ := cov_step (s := s) (i := i) (p := p) (by omega) (by omega) (by omega) hc
      refine q_draw [(31, .int .i64 (((wordsB s).getD i.toNat (0, ⟨#[]⟩)).1)), (36, .string (((wordsB s).getD i.toNat (0, ⟨#[]⟩)).2)), (42, .int .i64 (((wordsB s).getD i.toNat (0, ⟨#[]⟩)).1)), (44, .string (((wordsB s).getD i.toNat (0, ⟨#[]⟩)).2)), (54, .int .i64 (((wordsB s).getD i.toNat (0, ⟨#[]⟩)).1)), (56, .int .i64 (((wordsB s).getD i.toNat (0, ⟨#[]⟩)).1)), (58, .string (((wordsB s).getD i.toNat (0, ⟨#[]⟩)).2)), (61, .string (s.extract (((wordsB s).getD i.toNat (0, ⟨#[]⟩)).1).toNat ((((wordsB s).getD i.toNat (0, ⟨#[]⟩)).1) + ((((wordsB s).getD i.toNat (0, ⟨#[]⟩)).2).size : Int)).toNat)), (63, .string (((wordsB s).getD i.toNat (0, ⟨#[]⟩)).2)), (71, .int .i64 (((wordsB s).getD i.toNat (0, ⟨#[]⟩)).1))] [(0, .string s), (3, .int .i64 p), (4, v13), (5, .int .i64 i), (6, .pointer (some ⟨b30, 0, none⟩)), (75, .bool (((((decide (((wordsB s).getD i.toNat (0, ⟨#[]⟩)).1 < p)) || (decide (((((wordsB s).getD i.toNat (0, ⟨#[]⟩)).2).size : Int) = 0))) || (decide ((s.size : Int) < (((wordsB s).getD i.toNat (0, ⟨#[]⟩)).1) + ((((wordsB s).getD i.toNat (0, ⟨#[]⟩)).2).size : Int)))) || (!((s.extract (((wordsB s).getD i.toNat (0, ⟨#[]⟩)).1).toNat ((((wordsB s).getD i.toNat (0, ⟨#[]⟩)).1) + ((((wordsB s).getD i.toNat (0, ⟨#[]⟩)).2).size : Int)).toNat).toList == (((wordsB s).getD i.toNat (0, ⟨#[]⟩)).2).toList))) || ((decide ((0 : Int) < i)) && (decide (((wordsB s).getD i.toNat (0, ⟨#[]⟩)).1 = p)))))] ((0 < Try.prog.cellsOf 3) ∧ (CellOk (On w32) b30 (0 + 0) (.int .i64 (((wordsB s).getD i.toNat (0, ⟨#[]⟩)).1))) ∧ (True) ∧ (True) ∧ (True) ∧ ((decide (((wordsB s).getD i.toNat (0, ⟨#[]⟩)).1 < p)) = false → 0 < Try.prog.cellsOf 9) ∧ ((decide (((wordsB s).getD i.toNat (0, ⟨#[]⟩)).1 < p)) = false → CellOk (On w32) b30 (0 + 1) (.string (((wordsB s).getD i.toNat (0, ⟨#[]⟩)).2))) ∧ ((decide (((wordsB s).getD i.toNat (0, ⟨#[]⟩)).1 < p)) = false → True) ∧ ((decide (((wordsB s).getD i.toNat (0, ⟨#[]⟩)).1 < p)) = false → True) ∧ (True) ∧ (True) ∧ (((decide (((wordsB s).getD i.toNat (0, ⟨#[]⟩)).1 < p)) || (decide (((((wordsB s).getD i.toNat (0, ⟨#[]⟩)).2).size : Int) = 0))) = false → 0 < Try.prog.cellsOf 3) ∧ (((decide (((wordsB s).getD i.toNat (0, ⟨#[]⟩)).1 < p)) || (decide (((((wordsB s).getD i.toNat (0, ⟨#[]⟩)).2).size : Int) = 0))) = false → CellOk (On w32) b30 (0 + 0) (.int .i64 (((wordsB s).getD i.toNat (0, ⟨#[]⟩)).1))) ∧ (((decide (((wordsB s).getD i.toNat (0, ⟨#[]⟩)).1 < p)) || (decide (((((wordsB s).getD i.toNat (0, ⟨#[]⟩)).2).size : Int) = 0))) = false → 0 < Try.prog.cellsOf 9) ∧ (((decide (((wordsB s).getD i.toNat (0, ⟨#[]⟩)).1 < p)) || (decide (((((wordsB s).getD i.toNat (0, ⟨#[]⟩)).2).size : Int) = 0))) = false → CellOk (On w32) b30 (0 + 1) (.string (((wordsB s).getD i.toNat (0, ⟨#[]⟩)).2))) ∧ (((decide (((wordsB s).getD i.toNat (0, ⟨#[]⟩)).1 < p)) || (decide (((((wordsB s).getD i.toNat (0, ⟨#[]⟩)).2).size : Int) = 0))) = false → True) ∧ (((decide (((wordsB s).getD i.toNat (0, ⟨#[]⟩)).1 < p)) || (decide (((((wordsB s).getD i.toNat (0, ⟨#[]⟩)).2).size : Int) = 0))) = false → InR .i64 ((((wordsB s).getD i.toNat (0, ⟨#[]⟩)).1) + ((((wordsB s).getD i.toNat (0, ⟨#[]⟩)).2).size : Int))) ∧ (((decide (((wordsB s).getD i.toNat (0, ⟨#[]⟩)).1 < p)) || (decide (((((wordsB s).getD i.toNat (0, ⟨#[]⟩)).2).size : Int) = 0))) = false → True) ∧ (((decide (((wordsB s).getD i.toNat (0, ⟨#[]⟩)).1 < p)) || (decide (((((wordsB s).getD i.toNat (0, ⟨#[]⟩)).2).size : Int) = 0))) = false → True) ∧ (((decide (((wordsB s).getD i.toNat (0, ⟨#[]⟩)).1 < p)) || (decide (((((wordsB s).getD i.toNat (0, ⟨#[]⟩)).2).size : Int) = 0))) = false → True) ∧ (True) ∧ (True) ∧ ((((decide (((wordsB s).getD i.toNat (0, ⟨#[]⟩)).1 < p)) || (decide (((((wordsB s).getD i.toNat (0, ⟨#[]⟩)).2).size : Int) = 0))) || (decide ((s.size : Int) < (((wordsB s).getD i.toNat (0, ⟨#[]⟩)).1) + ((((wordsB s).getD i.toNat (0, ⟨#[]⟩)).2).size : Int)))) = false → True) ∧ ((((decide (((wordsB s).getD i.toNat (0, ⟨#[]⟩)).1 < p)) || (decide (((((wordsB s).getD i.toNat (0, ⟨#[]⟩)).2).size : Int) = 0))) || (decide ((s.size : Int) < (((wordsB s).getD i.toNat (0, ⟨#[]⟩)).1) + ((((wordsB s).getD i.toNat (0, ⟨#[]⟩)).2).size : Int)))) = false → 0 < Try.prog.cellsOf 3) ∧ ((((decide (((wordsB s).getD i.toNat (0, ⟨#[]⟩)).1 < p)) || (decide (((((wordsB s).getD i.toNat (0, ⟨#[]⟩)).2).size : Int) = 0))) || (decide ((s.size : Int) < (((wordsB s).getD i.toNat (0, ⟨#[]⟩)).1) + ((((wordsB s).getD i.toNat (0, ⟨#[]⟩)).2).size : Int)))) = false → CellOk (On w32) b30 (0 + 0) (.int .i64 (((wordsB s).getD i.toNat (0, ⟨#[]⟩)).1))) ∧ ((((decide (((wordsB s).getD i.toNat (0, ⟨#[]⟩)).1 < p)) || (decide (((((wordsB s).getD i.toNat (0, ⟨#[]⟩)).2).size : Int) = 0))) || (decide ((s.size : Int) < (((wordsB s).getD i.toNat (0, ⟨#[]⟩)).1) + ((((wordsB s).getD i.toNat (0, ⟨#[]⟩)).2).size : Int)))) = false → 0 < Try.prog.cellsOf 3) ∧ ((((decide (((wordsB s).getD i.toNat (0, ⟨#[]⟩)).1 < p)) || (decide (((((wordsB s).getD i.toNat (0, ⟨#[]⟩)).2).size : Int) = 0))) || (decide ((s.size : Int) < (((wordsB s).getD i.toNat (0, ⟨#[]⟩)).1) + ((((wordsB s).getD i.toNat (0, ⟨#[]⟩)).2).size : Int)))) = false → CellOk (On w32) b30 (0 + 0) (.int .i64 (((wordsB s).getD i.toNat (0, ⟨#[]⟩)).1))) ∧ ((((decide (((wordsB s).getD i.toNat (0, ⟨#[]⟩)).1 < p)) || (decide (((((wordsB s).getD i.toNat (0, ⟨#[]⟩)).2).size : Int) = 0))) || (decide ((s.size : Int) < (((wordsB s).getD i.toNat (0, ⟨#[]⟩)).1) + ((((wordsB s).getD i.toNat (0, ⟨#[]⟩)).2).size : Int)))) = false → 0 < Try.prog.cellsOf 9) ∧ ((((decide (((wordsB s).getD i.toNat (0, ⟨#[]⟩)).1 < p)) || (decide (((((wordsB s).getD i.toNat (0, ⟨#[]⟩)).2).size : Int) = 0))) || (decide ((s.size : Int) < (((wordsB s).getD i.toNat (0, ⟨#[]⟩)).1) + ((((wordsB s).getD i.toNat (0, ⟨#[]⟩)).2).size : Int)))) = false → CellOk (On w32) b30 (0 + 1) (.string (((wordsB s).getD i.toNat (0, ⟨#[]⟩)).2))) ∧ ((((decide (((wordsB s).getD i.toNat (0, ⟨#[]⟩)).1 < p)) || (decide (((((wordsB s).getD i.toNat (0, ⟨#[]⟩)).2).size : Int) = 0))) || (decide ((s.size : Int) < (((wordsB s).getD i.toNat (0, ⟨#[]⟩)).1) + ((((wordsB s).getD i.toNat (0, ⟨#[]⟩)).2).size : Int)))) = false → True) ∧ ((((decide (((wordsB s).getD i.toNat (0, ⟨#[]⟩)).1 < p)) || (decide (((((wordsB s).getD i.toNat (0, ⟨#[]⟩)).2).size : Int) = 0))) || (decide ((s.size : Int) < (((wordsB s).getD i.toNat (0, ⟨#[]⟩)).1) + ((((wordsB s).getD i.toNat (0, ⟨#[]⟩)).2).size : Int)))) = false → InR .i64 ((((wordsB s).getD i.toNat (0, ⟨#[]⟩)).1) + ((((wordsB s).getD i.toNat (0, ⟨#[]⟩)).2).size : Int))) ∧ ((((decide (((wordsB s).getD i.toNat (0, ⟨#[]⟩)).1 < p)) || (decide (((((wordsB s).getD i.toNat (0, ⟨#[]⟩)).2).size : Int) = 0))) || (decide ((s.size : Int) < (((wordsB s).getD i.toNat (0, ⟨#[]⟩)).1) + ((((wordsB s).getD i.toNat (0, ⟨#[]⟩)).2).size : Int)))) = false → ∀ w, (Instr.sliceAt 9 (.string s) (some (.int .i64 (((wordsB s).getD i.toNat (0, ⟨#[]⟩)).1))) (some (.int .i64 ((((wordsB s).getD i.toNat (0, ⟨#[]⟩)).1) + ((((wordsB s).getD i.toNat (0, ⟨#[]⟩)).2).size : Int)))) none).run Try.prog w = .ok (.string (s.extract (((wordsB s).getD i.toNat (0, ⟨#[]⟩)).1).toNat ((((wordsB s).getD i.toNat (0, ⟨#[]⟩)).1) + ((((wordsB s).getD i.toNat (0, ⟨#[]⟩)).2).size : Int)).toNat)) w) ∧ ((((decide (((wordsB s).getD i.toNat (0, ⟨#[]⟩)).1 < p)) || (decide (((((wordsB s).getD i.toNat (0, ⟨#[]⟩)).2).size : Int) = 0))) || (decide ((s.size : Int) < (((wordsB s).getD i.toNat (0, ⟨#[]⟩)).1) + ((((wordsB s).getD i.toNat (0, ⟨#[]⟩)).2).size : Int)))) = false → 0 < Try.prog.cellsOf 9) ∧ ((((decide (((wordsB s).getD i.toNat (0, ⟨#[]⟩)).1 < p)) || (decide (((((wordsB s).getD i.toNat (0, ⟨#[]⟩)).2).size : Int) = 0))) || (decide ((s.size : Int) < (((wordsB s).getD i.toNat (0, ⟨#[]⟩)).1) + ((((wordsB s).getD i.toNat (0, ⟨#[]⟩)).2).size : Int)))) = false → CellOk (On w32) b30 (0 + 1) (.string (((wordsB s).getD i.toNat (0, ⟨#[]⟩)).2))) ∧ ((((decide (((wordsB s).getD i.toNat (0, ⟨#[]⟩)).1 < p)) || (decide (((((wordsB s).getD i.toNat (0, ⟨#[]⟩)).2).size : Int) = 0))) || (decide ((s.size : Int) < (((wordsB s).getD i.toNat (0, ⟨#[]⟩)).1) + ((((wordsB s).getD i.toNat (0, ⟨#[]⟩)).2).size : Int)))) = false → True) ∧ (True) ∧ (True) ∧ (((((decide (((wordsB s).getD i.toNat (0, ⟨#[]⟩)).1 < p)) || (decide (((((wordsB s).getD i.toNat (0, ⟨#[]⟩)).2).size : Int) = 0))) || (decide ((s.size : Int) < (((wordsB s).getD i.toNat (0, ⟨#[]⟩)).1) + ((((wordsB s).getD i.toNat (0, ⟨#[]⟩)).2).size : Int)))) || (!((s.extract (((wordsB s).getD i.toNat (0, ⟨#[]⟩)).1).toNat ((((wordsB s).getD i.toNat (0, ⟨#[]⟩)).1) + ((((wordsB s).getD i.toNat (0, ⟨#[]⟩)).2).size : Int)).toNat).toList == (((wordsB s).getD i.toNat (0, ⟨#[]⟩)).2).toList))) = false → True) ∧ (((((decide (((wordsB s).getD i.toNat (0, ⟨#[]⟩)).1 < p)) || (decide (((((wordsB s).getD i.toNat (0, ⟨#[]⟩)).2).size : Int) = 0))) || (decide ((s.size : Int) < (((wordsB s).getD i.toNat (0, ⟨#[]⟩)).1) + ((((wordsB s).getD i.toNat (0, ⟨#[]⟩)).2).size : Int)))) || (!((s.extract (((wordsB s).getD i.toNat (0, ⟨#[]⟩)).1).toNat ((((wordsB s).getD i.toNat (0, ⟨#[]⟩)).1) + ((((wordsB s).getD i.toNat (0, ⟨#[]⟩)).2).size : Int)).toNat).toList == (((wordsB s).getD i.toNat (0, ⟨#[]⟩)).2).toList))) = false → True) ∧ (((((decide (((wordsB s).getD i.toNat (0, ⟨#[]⟩)).1 < p)) || (decide (((((wordsB s).getD i.toNat (0, ⟨#[]⟩)).2).size : Int) = 0))) || (decide ((s.size : Int) < (((wordsB s).getD i.toNat (0, ⟨#[]⟩)).1) + ((((wordsB s).getD i.toNat (0, ⟨#[]⟩)).2).size : Int)))) || (!((s.extract (((wordsB s).getD i.toNat (0, ⟨#[]⟩)).1).toNat ((((wordsB s).getD i.toNat (0, ⟨#[]⟩)).1) + ((((wordsB s).getD i.toNat (0, ⟨#[]⟩)).2).size : Int)).toNat).toList == (((wordsB s).getD i.toNat (0, ⟨#[]⟩)).2).toList))) = false → True) ∧ (((((decide (((wordsB s).getD i.toNat (0, ⟨#[]⟩)).1 < p)) || (decide (((((wordsB s).getD i.toNat (0, ⟨#[]⟩)).2).size : Int) = 0))) || (decide ((s.size : Int) < (((wordsB s).getD i.toNat (0, ⟨#[]⟩)).1) + ((((wordsB s).getD i.toNat (0, ⟨#[]⟩)).2).size : Int)))) || (!((s.extract (((wordsB s).getD i.toNat (0, ⟨#[]⟩)).1).toNat ((((wordsB s).getD i.toNat (0, ⟨#[]⟩)).1) + ((((wordsB s).getD i.toNat (0, ⟨#[]⟩)).2).size : Int)).toNat).toList == (((wordsB s).getD i.toNat (0, ⟨#[]⟩)).2).toList))) = false → (decide ((0 : Int) < i)) = true → 0 < Try.prog.cellsOf 3) ∧ (((((decide (((wordsB s).getD i.toNat (0, ⟨#[]⟩)).1 < p)) || (decide (((((wordsB s).getD i.toNat (0, ⟨#[]⟩)).2).size : Int) = 0))) || (decide ((s.size : Int) < (((wordsB s).getD i.toNat (0, ⟨#[]⟩)).1) + ((((wordsB s).getD i.toNat (0, ⟨#[]⟩)).2).size : Int)))) || (!((s.extract (((wordsB s).getD i.toNat (0, ⟨#[]⟩)).1).toNat ((((wordsB s).getD i.toNat (0, ⟨#[]⟩)).1) + ((((wordsB s).getD i.toNat (0, ⟨#[]⟩)).2).size : Int)).toNat).toList == (((wordsB s).getD i.toNat (0, ⟨#[]⟩)).2).toList))) = false → (decide ((0 : Int) < i)) = true → CellOk (On w32) b30 (0 + 0) (.int .i64 (((wordsB s).getD i.toNat (0, ⟨#[]⟩)).1))) ∧ (((((decide (((wordsB s).getD i.toNat (0, ⟨#[]⟩)).1 < p)) || (decide (((((wordsB s).getD i.toNat (0, ⟨#[]⟩)).2).size : Int) = 0))) || (decide ((s.size : Int) < (((wordsB s).getD i.toNat (0, ⟨#[]⟩)).1) + ((((wordsB s).getD i.toNat (0, ⟨#[]⟩)).2).size : Int)))) || (!((s.extract (((wordsB s).getD i.toNat (0, ⟨#[]⟩)).1).toNat ((((wordsB s).getD i.toNat (0, ⟨#[]⟩)).1) + ((((wordsB s).getD i.toNat (0, ⟨#[]⟩)).2).size : Int)).toNat).toList == (((wordsB s).getD i.toNat (0, ⟨#[]⟩)).2).toList))) = false → (decide ((0 : Int) < i)) = true → True) ∧ (((((decide (((wordsB s).getD i.toNat (0, ⟨#[]⟩)).1 < p)) || (decide (((((wordsB s).getD i.toNat (0, ⟨#[]⟩)).2).size : Int) = 0))) || (decide ((s.size : Int) < (((wordsB s).getD i.toNat (0, ⟨#[]⟩)).1) + ((((wordsB s).getD i.toNat (0, ⟨#[]⟩)).2).size : Int)))) || (!((s.extract (((wordsB s).getD i.toNat (0, ⟨#[]⟩)).1).toNat ((((wordsB s).getD i.toNat (0, ⟨#[]⟩)).1) + ((((wordsB s).getD i.toNat (0, ⟨#[]⟩)).2).size : Int)).toNat).toList == (((wordsB s).getD i.toNat (0, ⟨#[]⟩)).2).toList))) = false → (decide ((0 : Int) < i)) = true → True) ∧ (((((decide (((wordsB s).getD i.toNat (0, ⟨#[]⟩)).1 < p)) || (decide (((((wordsB s).getD i.toNat (0, ⟨#[]⟩)).2).size : Int) = 0))) || (decide ((s.size : Int) < (((wordsB s).getD i.toNat (0, ⟨#[]⟩)).1) + ((((wordsB s).getD i.toNat (0, ⟨#[]⟩)).2).size : Int)))) || (!((s.extract (((wordsB s).getD i.toNat (0, ⟨#[]⟩)).1).toNat ((((wordsB s).getD i.toNat (0, ⟨#[]⟩)).1) + ((((wordsB s).getD i.toNat (0, ⟨#[]⟩)).2).size : Int)).toNat).toList == (((wordsB s).getD i.toNat (0, ⟨#[]⟩)).2).toList))) = false → True) ∧ (True) ∧ True) hA H ⟨by decide +kernel, by exact box_cell H 0 rfl 0, trivial, trivial, trivial, fun _ => by decide +kernel, fun _ => by exact box_cell H 0 rfl 1, fun _ => trivial, fun _ => trivial, trivial, trivial, fun _ => by decide +kernel, fun _ => by exact box_cell H 0 rfl 0, fun _ => by decide +kernel, fun _ => by exact box_cell H 0 rfl 1, fun _ => trivial, fun hg0 => by replace hg0 := (⟨of_decide_eq_false ((oF hg0).1), of_decide_eq_false ((oF hg0).2)⟩ : _ ∧ _); exact ⟨by omega, by omega⟩, fun _ => trivial, fun _ => trivial, fun _ => trivial, trivial, trivial, fun _ => trivial, fun _ => by decide +kernel, fun _ => by exact box_cell H 0 rfl 0, fun _ => by decide +kernel, fun _ => by exact box_cell H 0 rfl 0, fun _ => by decide +kernel, fun _ => by exact box_cell H 0 rfl 1, fun _ => trivial, fun hg0 => by replace hg0 := (⟨(⟨of_decide_eq_false ((oF ((oF hg0).1)).1), of_decide_eq_false ((oF ((oF hg0).1)).2)⟩ : _ ∧ _), of_decide_eq_false ((oF hg0).2)⟩ : _ ∧ _); exact ⟨by omega, by omega⟩, fun hg0 => by replace hg0 := (⟨(⟨of_decide_eq_false ((oF ((oF hg0).1)).1), of_decide_eq_false ((oF ((oF hg0).1)).2)⟩ : _ ∧ _), of_decide_eq_false ((oF hg0).2)⟩ : _ ∧ _); exact fun w => slice_str_lh Try.underlying9 w (by omega) (by omega) (by omega), fun _ => by decide +kernel, fun _ => by exact box_cell H 0 rfl 1, fun _ => trivial, trivial, trivial, fun _ => trivial, fun _ => trivial, fun _ => trivial, fun _ _ => by decide +kernel, fun _ _ => by exact box_cell H 0 rfl 0, fun _ _ => trivial, fun _ _ => trivial, fun _ => trivial, trivial, trivial⟩ fun a w35 hA H _ => ?_
      refine hK34 _ _ ?_
      refine go_cond hA (.tmp 75) (((((decide (((wordsB s).getD i.toNat (0, ⟨#[]⟩)).1 < p)) || (decide (((((wordsB s).getD i.toNat (0, ⟨#[]⟩)).2).size : Int) = 0))) || (decide ((s.size : Int) < (((wordsB s).getD i.toNat (0, ⟨#[]⟩)).1) + ((((wordsB s).getD i.toNat (0, ⟨#[]⟩)).2).size : Int)))) || (!((s.extract (((wordsB s).getD i.toNat (0, ⟨#[]⟩)).1).toNat ((((wordsB s).getD i.toNat (0, ⟨#[]⟩)).1) + ((((wordsB s).getD i.toNat (0, ⟨#[]⟩)).2).size : Int)).toNat).toList == (((wordsB s).getD i.toNat (0, ⟨#[]⟩)).2).toList))) || ((decide ((0 : Int) < i)) && (decide (((wordsB s).getD i.toNat (0, ⟨#[]⟩)).1 = p)))) (fun hb36 => ?_) (fun hb36 => ?_)
      · have hhb36 := (oT hb36).imp (fun h => (oT h).imp (fun h => (oT h).imp (fun h => (oT h).imp (fun h => of_decide_eq_true h) (fun h => of_decide_eq_true h)) (fun h => of_decide_eq_true h)) (fun h => str_F (nT h))) (fun h => (⟨of_decide_eq_true ((aT h).1), of_decide_eq_true ((aT h).2)⟩ : _ ∧ _))
        exact False.elim (hhb36.elim (fun h => h.elim (fun h => h.elim (fun h => h.elim (fun h => by omega) (fun h => by omega)) (fun h => by omega)) (fun h => h q5)) (fun h => q2 h.1 h.2))
      · have hhb36 := (⟨(⟨(⟨(⟨of_decide_eq_false ((oF ((oF ((oF ((oF hb36).1)).1)).1)).1), of_decide_eq_false ((oF ((oF ((oF ((oF hb36).1)).1)).1)).2)⟩ : _ ∧ _), of_decide_eq_false ((oF ((oF ((oF hb36).1)).1)).2)⟩ : _ ∧ _), str_T (nF ((oF ((oF hb36).1)).2))⟩ : _ ∧ _), (aF ((oF hb36).2)).imp (fun h => of_decide_eq_false h) (fun h => of_decide_eq_false h)⟩ : _ ∧ _)
        refine go_skip ?_
        refine hK33 _ _ ?_
        refine go_seq fun K37 hK37 => ?_
        refine go_seq fun K38 hK38 => ?_
        refine q_reg [] [(0, .string s), (4, v13), (5, .int .i64 i), (6, .pointer (some ⟨b30, 0, none⟩)), (7, .int .i64 p)] ((True) ∧ (True) ∧ True) hA H ⟨trivial, trivial, trivial⟩ fun a w39 hA H _ => ?_
        refine hK38 _ _ ?_
        refine go_block 2 ?_
        refine go_loop_ (Int) (fun x a W => (fun (k : Int) => EnvOk 116 a (keepEnv [(0, .string s), (4, v13), (5, .int .i64 i), (6, .pointer (some ⟨b30, 0, none⟩)), (7, .int .i64 k)]) ∧ (∃ S, Fr (org w) W S [.box b30 26 [.int .i64 (((wordsB s).getD i.toNat (0, ⟨#[]⟩)).1), .string (((wordsB s).getD i.toNat (0, ⟨#[]⟩)).2)], .ro v13 (wordsB s)]) ∧ p ≤ k) x) (fun x => (fun (k : Int) => (((wordsB s).getD i.toNat (0, ⟨#[]⟩)).1 - k).toNat) x) (p) ?_ (fun k a w41 hI => ?_)
        · (try dsimp only); exact ⟨env_sub _ hA, ⟨_, H⟩, by omega⟩
        obtain ⟨hA, ⟨S, H⟩, hk⟩ := hI
        try dsimp only at hk
        refine go_seq fun K42 hK42 => ?_
        refine go_seq fun K43 hK43 => ?_
        refine q_reg [(79, .int .i64 (((wordsB s).getD i.toNat (0, ⟨#[]⟩)).1))] [(0, .string s), (4, v13), (5, .int .i64 i), (6, .pointer (some ⟨b30, 0, none⟩)), (7, .int .i64 k), (80, .bool (decide (k < ((wordsB s).getD i.toNat (0, ⟨#[]⟩)).1)))] ((True) ∧ (0 < Try.prog.cellsOf 3) ∧ (CellOk (On w41) b30 (0 + 0) (.int .i64 (((wordsB s).getD i.toNat (0, ⟨#[]⟩)).1))) ∧ (True) ∧ True) hA H ⟨trivial, by decide +kernel, by exact box_cell H 0 rfl 0, trivial, trivial⟩ fun a w44 hA H _ => ?_
        refine hK43 _ _ ?_
        refine go_cond hA (.tmp 80) (decide (k < ((wordsB s).getD i.toNat (0, ⟨#[]⟩)).1)) (fun hb45 => ?_) (fun hb45 => ?_)
        · have hhb45 := of_decide_eq_true hb45
          refine go_skip ?_
          refine hK42 _ _ ?_
          refine go_seq fun K46 hK46 => ?_
          refine go_block 3 ?_
          refine go_seq fun K47 hK47 => ?_
          refine q_reg [] [(0, .string s), (4, v13), (5, .int .i64 i), (6, .pointer (some ⟨b30, 0, none⟩)), (7, .int .i64 k), (86, .bool (!decide (StrAt s k = 32)))] ((True) ∧ (True) ∧ (0 ≤ k ∧ k < (s.size : Int)) ∧ (True) ∧ True) hA H ⟨trivial, trivial, ⟨by omega, by omega⟩, trivial, trivial⟩ fun a w48 hA H _ => ?_
          refine hK47 _ _ ?_
          refine go_cond hA (.tmp 86) (!decide (StrAt s k = 32)) (fun hb49 => ?_) (fun hb49 => ?_)
          · have hhb49 := of_decide_eq_false (nT hb49)
            exact absurd (q6 k (by omega) (by omega)) hhb49
          · have hhb49 := of_decide_eq_true (nF hb49)
            refine go_skip ?_
            refine hK46 _ _ ?_
            refine q_reg [] [(0, .string s), (4, v13), (5, .int .i64 i), (6, .pointer (some ⟨b30, 0, none⟩)), (7, .int .i64 (k + 1))] ((True) ∧ (InR .i64 (k + 1)) ∧ (True) ∧ True) hA H ⟨trivial, ⟨by omega, by omega⟩, trivial, trivial⟩ fun a w50 hA H _ => ?_
            refine ⟨(k + 1), ⟨env_sub _ hA, ⟨_, H⟩, ?_⟩, ?_⟩
            · (try dsimp only); omega
            · (try dsimp only); omega
        · have hhb45 := of_decide_eq_false hb45
          refine go_exit 2 ?_
          refine hK37 _ _ ?_
          refine go_seq fun K51 hK51 => ?_
          refine go_seq fun K52 hK52 => ?_
          refine q_reg [] [(0, .string s), (4, v13), (5, .int .i64 i), (6, .pointer (some ⟨b30, 0, none⟩)), (8, .int .i64 0)] ((True) ∧ True) hA H ⟨trivial, trivial⟩ fun a w53 hA H _ => ?_
          refine hK52 _ _ ?_
          refine go_block 4 ?_
          refine go_loop_ (Int) (fun x a W => (fun (m : Int) => EnvOk 116 a (keepEnv [(0, .string s), (4, v13), (5, .int .i64 i), (6, .pointer (some ⟨b30, 0, none⟩)), (8, .int .i64 m)]) ∧ (∃ S, Fr (org w) W S [.box b30 26 [.int .i64 (((wordsB s).getD i.toNat (0, ⟨#[]⟩)).1), .string (((wordsB s).getD i.toNat (0, ⟨#[]⟩)).2)], .ro v13 (wordsB s)]) ∧ 0 ≤ m) x) (fun x => (fun (m : Int) => ((((wordsB s).getD i.toNat (0, ⟨#[]⟩)).2.size : Int) - m).toNat) x) (0) ?_ (fun m a w55 hI => ?_)
          · (try dsimp only); exact ⟨env_sub _ hA, ⟨_, H⟩, by omega⟩
          obtain ⟨hA, ⟨S, H⟩, hm⟩ := hI
          try dsimp only at hm
          refine go_seq fun K56 hK56 => ?_
          refine go_seq fun K57 hK57 => ?_
          refine q_reg [(89, .string (((wordsB s).getD i.toNat (0, ⟨#[]⟩)).2))] [(0, .string s), (4, v13), (5, .int .i64 i), (6, .pointer (some ⟨b30, 0, none⟩)), (8, .int .i64 m), (91, .bool (decide (m < ((((wordsB s).getD i.toNat (0, ⟨#[]⟩)).2).size : Int))))] ((True) ∧ (0 < Try.prog.cellsOf 9) ∧ (CellOk (On w55) b30 (0 + 1) (.string (((wordsB s).getD i.toNat (0, ⟨#[]⟩)).2))) ∧ (True) ∧ (True) ∧ True) hA H ⟨trivial, by decide +kernel, by exact box_cell H 0 rfl 1, trivial, trivial, trivial⟩ fun a w58 hA H _ => ?_
          refine hK57 _ _ ?_
          refine go_cond hA (.tmp 91) (decide (m < ((((wordsB s).getD i.toNat (0, ⟨#[]⟩)).2).size : Int))) (fun hb59 => ?_) (fun hb59 => ?_)
          · have hhb59 := of_decide_eq_true hb59
            refine go_skip ?_
            refine hK56 _ _ ?_
            refine go_seq fun K60 hK60 => ?_
            refine go_block 5 ?_
            refine go_seq fun K61 hK61 => ?_
            refine q_reg [(95, .string (((wordsB s).getD i.toNat (0, ⟨#[]⟩)).2))] [(0, .string s), (4, v13), (5, .int .i64 i), (6, .pointer (some ⟨b30, 0, none⟩)), (8, .int .i64 m), (98, .bool (decide (StrAt (((wordsB s).getD i.toNat (0, ⟨#[]⟩)).2) m = 32)))] ((0 < Try.prog.cellsOf 9) ∧ (CellOk (On w58) b30 (0 + 1) (.string (((wordsB s).getD i.toNat (0, ⟨#[]⟩)).2))) ∧ (True) ∧ (0 ≤ m ∧ m < ((((wordsB s).getD i.toNat (0, ⟨#[]⟩)).2).size : Int)) ∧ (True) ∧ True) hA H ⟨by decide +kernel, by exact box_cell H 0 rfl 1, trivial, ⟨by omega, by omega⟩, trivial, trivial⟩ fun a w62 hA H _ => ?_
            refine hK61 _ _ ?_
            refine go_cond hA (.tmp 98) (decide (StrAt (((wordsB s).getD i.toNat (0, ⟨#[]⟩)).2) m = 32)) (fun hb63 => ?_) (fun hb63 => ?_)
            · have hhb63 := of_decide_eq_true hb63
              exact absurd hhb63 (q7 m (by omega) (by omega))
            · have hhb63 := of_decide_eq_false hb63
              refine go_skip ?_
              refine hK60 _ _ ?_
              refine q_reg [] [(0, .string s), (4, v13), (5, .int .i64 i), (6, .pointer (some ⟨b30, 0, none⟩)), (8, .int .i64 (m + 1))] ((True) ∧ (InR .i64 (m + 1)) ∧ (True) ∧ True) hA H ⟨trivial, ⟨by omega, by omega⟩, trivial, trivial⟩ fun a w64 hA H _ => ?_
              refine ⟨(m + 1), ⟨env_sub _ hA, ⟨_, H⟩, ?_⟩, ?_⟩
              · (try dsimp only); omega
              · (try dsimp only); omega
          · have hhb59 := of_decide_eq_false hb59
            refine go_exit 4 ?_
            refine hK51 _ _ ?_
            refine q_reg [(100, .int .i64 (((wordsB s).getD i.toNat (0, ⟨#[]⟩)).1)), (102, .string (((wordsB s).getD i.toNat (0, ⟨#[]⟩)).2))] [(0, .string s), (3, .int .i64 ((((wordsB s).getD i.toNat (0, ⟨#[]⟩)).1) + ((((wordsB s).getD i.toNat (0, ⟨#[]⟩)).2).size : Int))), (4, v13), (5, .int .i64 i)] ((0 < Try.prog.cellsOf 3) ∧ (CellOk (On w58) b30 (0 + 0) (.int .i64 (((wordsB s).getD i.toNat (0, ⟨#[]⟩)).1))) ∧ (0 < Try.prog.cellsOf 9) ∧ (CellOk (On w58) b30 (0 + 1) (.string (((wordsB s).getD i.toNat (0, ⟨#[]⟩)).2))) ∧ (True) ∧ (InR .i64 ((((wordsB s).getD i.toNat (0, ⟨#[]⟩)).1) + ((((wordsB s).getD i.toNat (0, ⟨#[]⟩)).2).size : Int))) ∧ (True) ∧ True) hA H ⟨by decide +kernel, by exact box_cell H 0 rfl 0, by decide +kernel, by exact box_cell H 0 rfl 1, trivial, ⟨by omega, by omega⟩, trivial, trivial⟩ fun a w65 hA H _ => ?_
            refine hK27 _ _ ?_
            refine q_reg [] [(0, .string s), (3, .int .i64 ((((wordsB s).getD i.toNat (0, ⟨#[]⟩)).1) + ((((wordsB s).getD i.toNat (0, ⟨#[]⟩)).2).size : Int))), (4, v13), (5, .int .i64 (i + 1))] ((True) ∧ (InR .i64 (i + 1)) ∧ (True) ∧ True) hA H ⟨trivial, ⟨by omega, by omega⟩, trivial, trivial⟩ fun a w66 hA H _ => ?_
            replace H := H.drop 0
            refine ⟨(i + 1, (((wordsB s).getD i.toNat (0, ⟨#[]⟩)).1) + ((((wordsB s).getD i.toNat (0, ⟨#[]⟩)).2).size : Int)), ⟨env_sub _ hA, ⟨_, H⟩, ?_⟩, ?_⟩
            · (try dsimp only); exact ⟨by omega, by omega, by omega, q8⟩
            · (try dsimp only); omega
    · have hhb26 := of_decide_eq_false hb26
      refine go_exit 0 ?_
      refine hK18 _ _ ?_
      refine go_seq fun K67 hK67 => ?_
      refine go_seq fun K68 hK68 => ?_
      have hend := fun k a b => @cov_end s i p hc (by omega) k a b
      refine q_reg [] [(0, .string s), (9, .int .i64 p)] ((True) ∧ (True) ∧ True) hA H ⟨trivial, trivial, trivial⟩ fun a w69 hA H _ => ?_
      refine hK68 _ _ ?_
      refine go_block 6 ?_
      refine go_loop_ (Int) (fun x a W => (fun (k : Int) => EnvOk 116 a (keepEnv [(0, .string s), (9, .int .i64 k)]) ∧ (∃ S, Fr (org w) W S [.ro v13 (wordsB s)]) ∧ p ≤ k) x) (fun x => (fun (k : Int) => ((s.size : Int) - k).toNat) x) (p) ?_ (fun k a w71 hI => ?_)
      · (try dsimp only); exact ⟨env_sub _ hA, ⟨_, H⟩, by omega⟩
      obtain ⟨hA, ⟨S, H⟩, hk⟩ := hI
      try dsimp only at hk
      refine go_seq fun K72 hK72 => ?_
      refine go_seq fun K73 hK73 => ?_
      refine q_reg [] [(0, .string s), (9, .int .i64 k), (109, .bool (decide (k < (s.size : Int))))] ((True) ∧ (True) ∧ (True) ∧ (True) ∧ True) hA H ⟨trivial, trivial, trivial, trivial, trivial⟩ fun a w74 hA H _ => ?_
      refine hK73 _ _ ?_
      refine go_cond hA (.tmp 109) (decide (k < (s.size : Int))) (fun hb75 => ?_) (fun hb75 => ?_)
      · have hhb75 := of_decide_eq_true hb75
        refine go_skip ?_
        refine hK72 _ _ ?_
        refine go_seq fun K76 hK76 => ?_
        refine go_block 7 ?_
        refine go_seq fun K77 hK77 => ?_
        refine q_reg [] [(0, .string s), (9, .int .i64 k), (115, .bool (!decide (StrAt s k = 32)))] ((True) ∧ (True) ∧ (0 ≤ k ∧ k < (s.size : Int)) ∧ (True) ∧ True) hA H ⟨trivial, trivial, ⟨by omega, by omega⟩, trivial, trivial⟩ fun a w78 hA H _ => ?_
        refine hK77 _ _ ?_
        refine go_cond hA (.tmp 115) (!decide (StrAt s k = 32)) (fun hb79 => ?_) (fun hb79 => ?_)
        · have hhb79 := of_decide_eq_false (nT hb79)
          exact absurd (hend k (by omega) (by omega)) hhb79
        · have hhb79 := of_decide_eq_true (nF hb79)
          refine go_skip ?_
          refine hK76 _ _ ?_
          refine q_reg [] [(0, .string s), (9, .int .i64 (k + 1))] ((True) ∧ (InR .i64 (k + 1)) ∧ (True) ∧ True) hA H ⟨trivial, ⟨by omega, by omega⟩, trivial, trivial⟩ fun a w80 hA H _ => ?_
          refine ⟨(k + 1), ⟨env_sub _ hA, ⟨_, H⟩, ?_⟩, ?_⟩
          · (try dsimp only); omega
          · (try dsimp only); omega
      · have hhb75 := of_decide_eq_false hb75
        refine go_exit 6 ?_
        refine hK67 _ _ ?_
        refine go_seq fun K81 hK81 => ?_
        refine q_reg [] [(2, .bool true)] ((True) ∧ True) hA H ⟨trivial, trivial⟩ fun a w82 hA H _ => ?_
        refine hK81 _ _ ?_
        refine go_ret_ ?_
        refine ret_one 2 (.bool true) hA ?_
        exact ans_b rfl H.below

end Go.Proofs.Ytbdgelipabndaaa
