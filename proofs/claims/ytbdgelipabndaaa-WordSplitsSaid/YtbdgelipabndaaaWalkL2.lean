/-
  Walks, written by program: WordSplits.
-/
import Derived.Test.YtbdgelipabndaaaProg
import Derived.Test.YtbdgelipabndaaaWalkL1
import Derived.Test.YtbdgelipabndaaaWordE
set_option linter.unusedSimpArgs false
set_option linter.unusedVariables false
namespace Go.Proofs.Ytbdgelipabndaaa
open Go.RowKit

set_option maxRecDepth 100000 in
set_option maxHeartbeats 1000000 in
theorem wordSplits_any (s : ByteArray) (w : World) :
  Calls Try.prog 5 [.string s].toArray w (Ans (.bool true) w) := by
  have hlen := words_len s
  refine enter Try.f5 60 Try.func5 fun a hA => ?_
  replace hA := env_sub [(0, .string s)] hA
  have H := Fr.start (org w)
  refine go_seq fun K1 hK1 => ?_
  refine q_reg [] [(0, .string s)] ((True) ∧ True) hA H ⟨trivial, trivial⟩ fun a w2 hA H _ => ?_
  refine hK1 _ _ ?_
  refine go_seq fun K3 hK3 => ?_
  refine go_seq fun K4 hK4 => ?_
  refine q_reg [(6, .bool true)] [(0, .string s), (12, .bool (decide ((3000 : Int) < (s.size : Int))))] ((Callable Try.prog 9 ∧ CallOk Try.prog (On w2) 9 [].toArray (.bool true)) ∧ (True) ∧ (True) ∧ ((false) = false → True) ∧ ((false) = false → True) ∧ ((false) = false → True) ∧ (True) ∧ True) hA H ⟨⟨callable_of, callOk_of fun w hw => by exact awake_any w⟩, trivial, trivial, fun _ => trivial, fun _ => trivial, fun _ => trivial, trivial, trivial⟩ fun a w5 hA H _ => ?_
  refine hK4 _ _ ?_
  refine go_cond hA (.tmp 12) (decide ((3000 : Int) < (s.size : Int))) (fun hb6 => ?_) (fun hb6 => ?_)
  · have hhb6 := of_decide_eq_true hb6
    refine go_seq fun K7 hK7 => ?_
    refine q_reg [(13, .bool true)] [(2, .bool true)] ((Callable Try.prog 9 ∧ CallOk Try.prog (On w5) 9 [].toArray (.bool true)) ∧ (True) ∧ True) hA H ⟨⟨callable_of, callOk_of fun w hw => by exact awake_any w⟩, trivial, trivial⟩ fun a w8 hA H _ => ?_
    refine hK7 _ _ ?_
    refine go_ret_ ?_
    refine ret_one 2 (.bool true) hA ?_
    exact ans_b rfl H.below
  · have hhb6 := of_decide_eq_false hb6
    refine go_skip ?_
    refine hK3 _ _ ?_
    refine go_seq fun K9 hK9 => ?_
    refine region_list ?_
    refine q_list 0 1 [] [(0, .string s), (14, .string s)] ((True) ∧ True) hA H ⟨trivial, trivial⟩ fun a w10 hA H _ => ?_
    refine q_call 1 15 10 #[.tmp 14] #[9] [.string s] (fun S v w' => Rd S w' v (wordsB s)) [(0, .string s)] hA H (by exact split_any s H.at (by omega)) fun v11 a w12 S hR13 H hA => ?_
    replace H := H.ro hR13
    refine q_list 2 1 [] [(0, .string s), (3, v11)] ((True) ∧ True) hA H ⟨trivial, trivial⟩ fun a w15 hA H _ => ?_
    refine list_end ?_
    refine hK9 _ _ ?_
    refine go_seq fun K16 hK16 => ?_
    refine region_list ?_
    refine q_list 0 1 [] [(0, .string s), (3, v11), (16, .string s)] ((True) ∧ True) hA H ⟨trivial, trivial⟩ fun a w17 hA H _ => ?_
    refine q_call 1 17 12 #[.tmp 16] #[9] [.string s] (fun S v w' => Rd S w' v (wordsR s)) [(0, .string s), (3, v11)] hA H (by exact refWords_any s H.at (by omega)) fun v18 a w19 S hR20 H hA => ?_
    replace H := H.ro hR20
    refine q_list 2 1 [] [(0, .string s), (3, v11), (4, v18)] ((True) ∧ True) hA H ⟨trivial, trivial⟩ fun a w22 hA H _ => ?_
    refine list_end ?_
    refine hK16 _ _ ?_
    refine go_seq fun K23 hK23 => ?_
    refine go_seq fun K24 hK24 => ?_
    refine q_reg [(19, .int .i64 ((wordsB s).length : Int)), (21, .int .i64 ((wordsR s).length : Int))] [(0, .string s), (3, v11), (4, v18), (22, .bool (!decide (((wordsB s).length : Int) = ((wordsR s).length : Int))))] ((True) ∧ (LenOk v11 ((wordsB s).length : Int)) ∧ (True) ∧ (LenOk v18 ((wordsR s).length : Int)) ∧ (True) ∧ True) hA H ⟨trivial, by exact len_ok (H.get 1 rfl), trivial, by exact len_ok (H.get 0 rfl), trivial, trivial⟩ fun a w25 hA H _ => ?_
    refine hK24 _ _ ?_
    refine go_cond hA (.tmp 22) (!decide (((wordsB s).length : Int) = ((wordsR s).length : Int))) (fun hb26 => ?_) (fun hb26 => ?_)
    · have hhb26 := of_decide_eq_false (nT hb26)
      exact absurd (show ((wordsB s).length : Int) = ((wordsR s).length : Int) by omega) hhb26
    · have hhb26 := of_decide_eq_true (nF hb26)
      refine go_skip ?_
      refine hK23 _ _ ?_
      refine go_seq fun K27 hK27 => ?_
      refine go_seq fun K28 hK28 => ?_
      refine q_reg [] [(0, .string s), (3, v11), (4, v18), (5, .int .i64 0)] ((True) ∧ True) hA H ⟨trivial, trivial⟩ fun a w29 hA H _ => ?_
      refine hK28 _ _ ?_
      refine go_block 0 ?_
      refine go_loop_ (Int) (fun x a W => (fun (i : Int) => EnvOk 60 a (keepEnv [(0, .string s), (3, v11), (4, v18), (5, .int .i64 i)]) ∧ (∃ S, Fr (org w) W S [.ro v18 (wordsR s), .ro v11 (wordsB s)]) ∧ 0 ≤ i) x) (fun x => (fun (i : Int) => (((wordsB s).length : Int) - i).toNat) x) (0) ?_ (fun i a w31 hI => ?_)
      · (try dsimp only); exact ⟨env_sub _ hA, ⟨_, H⟩, by omega⟩
      obtain ⟨hA, ⟨S, H⟩, hi0⟩ := hI
      try dsimp only at hi0
      refine go_seq fun K32 hK32 => ?_
      refine go_seq fun K33 hK33 => ?_
      refine q_reg [(25, .int .i64 ((wordsB s).length : Int))] [(0, .string s), (3, v11), (4, v18), (5, .int .i64 i), (26, .bool (decide (i < ((wordsB s).length : Int))))] ((True) ∧ (True) ∧ (LenOk v11 ((wordsB s).length : Int)) ∧ (True) ∧ True) hA H ⟨trivial, trivial, by exact len_ok (H.get 1 rfl), trivial, trivial⟩ fun a w34 hA H _ => ?_
      refine hK33 _ _ ?_
      refine go_cond hA (.tmp 26) (decide (i < ((wordsB s).length : Int))) (fun hb35 => ?_) (fun hb35 => ?_)
      · have hhb35 := of_decide_eq_true hb35
        refine go_skip ?_
        refine hK32 _ _ ?_
        refine go_seq fun K36 hK36 => ?_
        refine go_block 1 ?_
        refine go_seq fun K37 hK37 => ?_
        obtain ⟨q1, q2, q3, q4, q5⟩ := words_at s (i := i) (by omega) (by omega)
        refine q_draw [(33, .int .i64 (((wordsB s).getD i.toNat (0, ⟨#[]⟩)).1)), (38, .int .i64 (((wordsR s).getD i.toNat (0, 0)).1)), (45, .string (((wordsB s).getD i.toNat (0, ⟨#[]⟩)).2)), (51, .int .i64 (((wordsR s).getD i.toNat (0, 0)).1)), (56, .int .i64 (((wordsR s).getD i.toNat (0, 0)).2)), (57, .string (s.extract (((wordsR s).getD i.toNat (0, 0)).1).toNat (((wordsR s).getD i.toNat (0, 0)).2).toNat))] [(0, .string s), (3, v11), (4, v18), (5, .int .i64 i), (59, .bool ((!decide (((wordsB s).getD i.toNat (0, ⟨#[]⟩)).1 = ((wordsR s).getD i.toNat (0, 0)).1)) || (!((((wordsB s).getD i.toNat (0, ⟨#[]⟩)).2).toList == (s.extract (((wordsR s).getD i.toNat (0, 0)).1).toNat (((wordsR s).getD i.toNat (0, 0)).2).toNat).toList))))] ((True) ∧ (True) ∧ ((Try.prog.info? 26).isSome = true ∧ IdxOk v11 i) ∧ (0 < Try.prog.cellsOf 3) ∧ (CellOk (On w34) (hdB v11) (hdO v11 + i.toNat * 2 + 0) (.int .i64 (((wordsB s).getD i.toNat (0, ⟨#[]⟩)).1))) ∧ (True) ∧ (True) ∧ ((Try.prog.info? 32).isSome = true ∧ IdxOk v18 i) ∧ (0 < Try.prog.cellsOf 3) ∧ (CellOk (On w34) (hdB v18) (hdO v18 + i.toNat * 2 + 0) (.int .i64 (((wordsR s).getD i.toNat (0, 0)).1))) ∧ (True) ∧ (True) ∧ ((!decide (((wordsB s).getD i.toNat (0, ⟨#[]⟩)).1 = ((wordsR s).getD i.toNat (0, 0)).1)) = false → True) ∧ ((!decide (((wordsB s).getD i.toNat (0, ⟨#[]⟩)).1 = ((wordsR s).getD i.toNat (0, 0)).1)) = false → True) ∧ ((!decide (((wordsB s).getD i.toNat (0, ⟨#[]⟩)).1 = ((wordsR s).getD i.toNat (0, 0)).1)) = false → (Try.prog.info? 26).isSome = true ∧ IdxOk v11 i) ∧ ((!decide (((wordsB s).getD i.toNat (0, ⟨#[]⟩)).1 = ((wordsR s).getD i.toNat (0, 0)).1)) = false → 0 < Try.prog.cellsOf 9) ∧ ((!decide (((wordsB s).getD i.toNat (0, ⟨#[]⟩)).1 = ((wordsR s).getD i.toNat (0, 0)).1)) = false → CellOk (On w34) (hdB v11) (hdO v11 + i.toNat * 2 + 1) (.string (((wordsB s).getD i.toNat (0, ⟨#[]⟩)).2))) ∧ ((!decide (((wordsB s).getD i.toNat (0, ⟨#[]⟩)).1 = ((wordsR s).getD i.toNat (0, 0)).1)) = false → True) ∧ ((!decide (((wordsB s).getD i.toNat (0, ⟨#[]⟩)).1 = ((wordsR s).getD i.toNat (0, 0)).1)) = false → True) ∧ ((!decide (((wordsB s).getD i.toNat (0, ⟨#[]⟩)).1 = ((wordsR s).getD i.toNat (0, 0)).1)) = false → True) ∧ ((!decide (((wordsB s).getD i.toNat (0, ⟨#[]⟩)).1 = ((wordsR s).getD i.toNat (0, 0)).1)) = false → (Try.prog.info? 32).isSome = true ∧ IdxOk v18 i) ∧ ((!decide (((wordsB s).getD i.toNat (0, ⟨#[]⟩)).1 = ((wordsR s).getD i.toNat (0, 0)).1)) = false → 0 < Try.prog.cellsOf 3) ∧ ((!decide (((wordsB s).getD i.toNat (0, ⟨#[]⟩)).1 = ((wordsR s).getD i.toNat (0, 0)).1)) = false → CellOk (On w34) (hdB v18) (hdO v18 + i.toNat * 2 + 0) (.int .i64 (((wordsR s).getD i.toNat (0, 0)).1))) ∧ ((!decide (((wordsB s).getD i.toNat (0, ⟨#[]⟩)).1 = ((wordsR s).getD i.toNat (0, 0)).1)) = false → True) ∧ ((!decide (((wordsB s).getD i.toNat (0, ⟨#[]⟩)).1 = ((wordsR s).getD i.toNat (0, 0)).1)) = false → True) ∧ ((!decide (((wordsB s).getD i.toNat (0, ⟨#[]⟩)).1 = ((wordsR s).getD i.toNat (0, 0)).1)) = false → (Try.prog.info? 32).isSome = true ∧ IdxOk v18 i) ∧ ((!decide (((wordsB s).getD i.toNat (0, ⟨#[]⟩)).1 = ((wordsR s).getD i.toNat (0, 0)).1)) = false → 0 < Try.prog.cellsOf 3) ∧ ((!decide (((wordsB s).getD i.toNat (0, ⟨#[]⟩)).1 = ((wordsR s).getD i.toNat (0, 0)).1)) = false → CellOk (On w34) (hdB v18) (hdO v18 + i.toNat * 2 + 1) (.int .i64 (((wordsR s).getD i.toNat (0, 0)).2))) ∧ ((!decide (((wordsB s).getD i.toNat (0, ⟨#[]⟩)).1 = ((wordsR s).getD i.toNat (0, 0)).1)) = false → ∀ w, (Instr.sliceAt 9 (.string s) (some (.int .i64 (((wordsR s).getD i.toNat (0, 0)).1))) (some (.int .i64 (((wordsR s).getD i.toNat (0, 0)).2))) none).run Try.prog w = .ok (.string (s.extract (((wordsR s).getD i.toNat (0, 0)).1).toNat (((wordsR s).getD i.toNat (0, 0)).2).toNat)) w) ∧ ((!decide (((wordsB s).getD i.toNat (0, ⟨#[]⟩)).1 = ((wordsR s).getD i.toNat (0, 0)).1)) = false → True) ∧ (True) ∧ True) hA H ⟨trivial, trivial, ⟨by kernel_rfl, by exact idx_ok (H.get 1 rfl) (by omega) (by omega)⟩, by decide +kernel, by exact cell_flat (i := i) (H.get 1 rfl) (by omega) (by omega) (0, ⟨#[]⟩) 0, trivial, trivial, ⟨by kernel_rfl, by exact idx_ok (H.get 0 rfl) (by omega) (by omega)⟩, by decide +kernel, by exact cell_flat (i := i) (H.get 0 rfl) (by omega) (by omega) (0, 0) 0, trivial, trivial, fun _ => trivial, fun _ => trivial, fun hg0 => by replace hg0 := of_decide_eq_true (nF hg0); exact ⟨by kernel_rfl, by exact idx_ok (H.get 1 rfl) (by omega) (by omega)⟩, fun _ => by decide +kernel, fun hg0 => by replace hg0 := of_decide_eq_true (nF hg0); exact by exact cell_flat (i := i) (H.get 1 rfl) (by omega) (by omega) (0, ⟨#[]⟩) 1, fun _ => trivial, fun _ => trivial, fun _ => trivial, fun hg0 => by replace hg0 := of_decide_eq_true (nF hg0); exact ⟨by kernel_rfl, by exact idx_ok (H.get 0 rfl) (by omega) (by omega)⟩, fun _ => by decide +kernel, fun hg0 => by replace hg0 := of_decide_eq_true (nF hg0); exact by exact cell_flat (i := i) (H.get 0 rfl) (by omega) (by omega) (0, 0) 0, fun _ => trivial, fun _ => trivial, fun hg0 => by replace hg0 := of_decide_eq_true (nF hg0); exact ⟨by kernel_rfl, by exact idx_ok (H.get 0 rfl) (by omega) (by omega)⟩, fun _ => by decide +kernel, fun hg0 => by replace hg0 := of_decide_eq_true (nF hg0); exact by exact cell_flat (i := i) (H.get 0 rfl) (by omega) (by omega) (0, 0) 1, fun hg0 => by replace hg0 := of_decide_eq_true (nF hg0); exact fun w => slice_str_lh Try.underlying9 w (by omega) (by omega) (by omega), fun _ => trivial, trivial, trivial⟩ fun a w38 hA H _ => ?_
        refine hK37 _ _ ?_
        refine go_cond hA (.tmp 59) ((!decide (((wordsB s).getD i.toNat (0, ⟨#[]⟩)).1 = ((wordsR s).getD i.toNat (0, 0)).1)) || (!((((wordsB s).getD i.toNat (0, ⟨#[]⟩)).2).toList == (s.extract (((wordsR s).getD i.toNat (0, 0)).1).toNat (((wordsR s).getD i.toNat (0, 0)).2).toNat).toList))) (fun hb39 => ?_) (fun hb39 => ?_)
        · have hhb39 := (oT hb39).imp (fun h => of_decide_eq_false (nT h)) (fun h => str_F (nT h))
          exact (hhb39.elim (fun h => h q1) (fun h => h q2)).elim
        · have hhb39 := (⟨of_decide_eq_true (nF ((oF hb39).1)), str_T (nF ((oF hb39).2))⟩ : _ ∧ _)
          refine go_skip ?_
          refine hK36 _ _ ?_
          refine q_reg [] [(0, .string s), (3, v11), (4, v18), (5, .int .i64 (i + 1))] ((True) ∧ (InR .i64 (i + 1)) ∧ (True) ∧ True) hA H ⟨trivial, ⟨by omega, by omega⟩, trivial, trivial⟩ fun a w40 hA H _ => ?_
          refine ⟨(i + 1), ⟨env_sub _ hA, ⟨_, H⟩, ?_⟩, ?_⟩
          · (try dsimp only); omega
          · (try dsimp only); omega
      · have hhb35 := of_decide_eq_false hb35
        refine go_exit 0 ?_
        refine hK27 _ _ ?_
        refine go_seq fun K41 hK41 => ?_
        refine q_reg [] [(2, .bool true)] ((True) ∧ True) hA H ⟨trivial, trivial⟩ fun a w42 hA H _ => ?_
        refine hK41 _ _ ?_
        refine go_ret_ ?_
        refine ret_one 2 (.bool true) hA ?_
        exact ans_b rfl H.below

end Go.Proofs.Ytbdgelipabndaaa
