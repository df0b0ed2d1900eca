/-
  Walks, written by program: WordPrefix.
-/
import Derived.Test.YtbdgelipabndaaaProg
import Derived.Test.YtbdgelipabndaaaWalkL1
import Derived.Test.YtbdgelipabndaaaWordF
set_option linter.unusedSimpArgs false
set_option linter.unusedVariables false
namespace Go.Proofs.Ytbdgelipabndaaa
open Go.RowKit

set_option maxRecDepth 100000 in
set_option maxHeartbeats 1000000 in
theorem wordPrefix_any (s : ByteArray) (n : Int) (w : World) (hn : 0 ≤ n ∧ n ≤ 255) :
  Calls Try.prog 4 [.string s, .int .u8 n].toArray w (Ans (.bool true) w) := by
  refine enter Try.f4 40 Try.func4 fun a hA => ?_
  replace hA := env_sub [(0, .string s), (1, .int .u8 n)] hA
  have H := Fr.start (org w)
  refine go_seq fun K1 hK1 => ?_
  refine q_reg [] [(0, .string s), (1, .int .u8 n)] ((True) ∧ True) hA H ⟨trivial, trivial⟩ fun a w2 hA H _ => ?_
  refine hK1 _ _ ?_
  refine go_seq fun K3 hK3 => ?_
  refine go_seq fun K4 hK4 => ?_
  refine q_reg [(7, .bool true), (16, .bool (nameB s))] [(0, .string s), (1, .int .u8 n), (18, .bool ((decide ((3000 : Int) < (s.size : Int))) || (!(nameB s))))] ((Callable Try.prog 9 ∧ CallOk Try.prog (On w2) 9 [].toArray (.bool true)) ∧ (True) ∧ (True) ∧ ((false) = false → True) ∧ ((false) = false → True) ∧ ((false) = false → True) ∧ (True) ∧ (True) ∧ ((decide ((3000 : Int) < (s.size : Int))) = false → True) ∧ ((decide ((3000 : Int) < (s.size : Int))) = false → Callable Try.prog 11 ∧ CallOk Try.prog (On w2) 11 [.string s].toArray (.bool (nameB s))) ∧ ((decide ((3000 : Int) < (s.size : Int))) = false → True) ∧ (True) ∧ True) hA H ⟨⟨callable_of, callOk_of fun w hw => by exact awake_any w⟩, trivial, trivial, fun _ => trivial, fun _ => trivial, fun _ => trivial, trivial, trivial, fun _ => trivial, fun _ => ⟨callable_of, callOk_of fun w hw => by exact name_any s w⟩, fun _ => trivial, trivial, trivial⟩ fun a w5 hA H _ => ?_
  refine hK4 _ _ ?_
  refine go_cond hA (.tmp 18) ((decide ((3000 : Int) < (s.size : Int))) || (!(nameB s))) (fun hb6 => ?_) (fun hb6 => ?_)
  · have hhb6 := (oT hb6).imp (fun h => of_decide_eq_true h) (fun h => (nT h))
    refine go_seq fun K7 hK7 => ?_
    refine q_reg [(19, .bool true)] [(4, .bool true)] ((Callable Try.prog 9 ∧ CallOk Try.prog (On w5) 9 [].toArray (.bool true)) ∧ (True) ∧ True) hA H ⟨⟨callable_of, callOk_of fun w hw => by exact awake_any w⟩, trivial, trivial⟩ fun a w8 hA H _ => ?_
    refine hK7 _ _ ?_
    refine go_ret_ ?_
    refine ret_one 4 (.bool true) hA ?_
    exact ans_b rfl H.below
  · have hhb6 := (⟨of_decide_eq_false ((oF hb6).1), (nF ((oF hb6).2))⟩ : _ ∧ _)
    refine go_skip ?_
    refine hK3 _ _ ?_
    refine go_seq fun K9 hK9 => ?_
    refine q_reg [] [(0, .string s), (1, .int .u8 n), (5, .int .i64 0)] ((True) ∧ True) hA H ⟨trivial, trivial⟩ fun a w10 hA H _ => ?_
    refine hK9 _ _ ?_
    refine go_seq fun K11 hK11 => ?_
    refine go_seq fun K12 hK12 => ?_
    refine region_list ?_
    refine q_list 0 1 [] [(0, .string s), (1, .int .u8 n), (5, .int .i64 0), (20, .string s)] ((True) ∧ True) hA H ⟨trivial, trivial⟩ fun a w13 hA H _ => ?_
    refine q_range 1 21 9 (.tmp 20) s [(0, .string s), (1, .int .u8 n), (5, .int .i64 0)] hA H Try.underlying9 fun b14 a w15 H hA => ?_
    refine list_end ?_
    refine hK12 _ _ ?_
    refine go_block 0 ?_
    refine go_loop_ (Nat × Int × List (Nat × Int)) (fun x a W => (fun (pos : Nat) (k : Int) (l : List (Nat × Int)) => EnvOk 40 a (keepEnv [(0, .string s), (1, .int .u8 n), (5, .int .i64 k), (21, .pointer (some ⟨b14, 0, none⟩))]) ∧ (∃ S, Fr (org w) W S [.iter b14 s pos]) ∧ 0 ≤ k ∧ k ≤ (pos : Int) ∧ pos ≤ s.size ∧ Pre s pos l) x.1 x.2.1 x.2.2) (fun x => (fun (pos : Nat) (k : Int) (l : List (Nat × Int)) => s.size - pos) x.1 x.2.1 x.2.2) (0, 0, []) ?_ (fun x a w17 hI => ?_)
    · (try dsimp only); exact ⟨env_sub _ hA, ⟨_, H⟩, by omega, by omega, by omega, pre_0 s⟩
    obtain ⟨pos, k, l⟩ := x
    obtain ⟨hA, ⟨S, H⟩, h1, h2, h3, hP⟩ := hI
    try dsimp only at h1 h2 h3 hP
    refine go_seq fun K18 hK18 => ?_
    refine region_list ?_
    refine q_next 0 22 (.tmp 21) 0 b14 s pos [(0, .string s), (1, .int .u8 n), (5, .int .i64 k), (21, .pointer (some ⟨b14, 0, none⟩))] hA H rfl (fun hp19 a w20 H hA => ?_) (fun hp19 a hA => ?_)
    · replace H : Fr _ _ _ [.iter b14 s (pos + (Utf8.decode s pos).2)] := H
      have hwd := width_pos s pos hp19
      refine q_list 1 1 [] [(0, .string s), (1, .int .u8 n), (5, .int .i64 k), (21, .pointer (some ⟨b14, 0, none⟩)), (22, .tuple #[.bool true, .int .i64 (pos : Int), .int .i32 ((Utf8.decode s pos).1 : Int)]), (23, .bool true)] ((True) ∧ True) hA H ⟨trivial, trivial⟩ fun a w21 hA H _ => ?_
      refine list_end ?_
      refine hK18 _ _ ?_
      refine go_seq fun K22 hK22 => ?_
      refine go_cond hA (.tmp 23) true (fun _ => ?_) (fun h => by cases h)
      refine go_skip ?_
      refine hK22 _ _ ?_
      refine go_block 1 ?_
      refine go_seq fun K24 hK24 => ?_
      refine q_reg [] [(0, .string s), (1, .int .u8 n), (5, .int .i64 k), (6, .int .i64 (pos : Int)), (21, .pointer (some ⟨b14, 0, none⟩))] ((True) ∧ (True) ∧ True) hA H ⟨trivial, trivial, trivial⟩ fun a w25 hA H _ => ?_
      refine hK24 _ _ ?_
      refine go_seq fun K26 hK26 => ?_
      refine go_seq fun K27 hK27 => ?_
      refine q_reg [] [(0, .string s), (1, .int .u8 n), (5, .int .i64 k), (6, .int .i64 (pos : Int)), (21, .pointer (some ⟨b14, 0, none⟩)), (33, .bool ((decide (k = n % 16)) && (decide ((0 : Int) < (pos : Int)))))] ((True) ∧ (True) ∧ (0 ≤ n ∧ 0 < (16 : Int)) ∧ (InR .i64 (n % 16)) ∧ (True) ∧ (True) ∧ ((decide (k = n % 16)) = true → True) ∧ ((decide (k = n % 16)) = true → True) ∧ (True) ∧ True) hA H ⟨trivial, trivial, ⟨by omega, by omega⟩, ⟨by omega, by omega⟩, trivial, trivial, fun _ => trivial, fun _ => trivial, trivial, trivial⟩ fun a w28 hA H _ => ?_
      refine hK27 _ _ ?_
      refine go_cond hA (.tmp 33) ((decide (k = n % 16)) && (decide ((0 : Int) < (pos : Int)))) (fun hb29 => ?_) (fun hb29 => ?_)
      · have hhb29 := (⟨of_decide_eq_true ((aT hb29).1), of_decide_eq_true ((aT hb29).2)⟩ : _ ∧ _)
        refine go_seq fun K30 hK30 => ?_
        refine q_reg [(36, .string (s.extract 0 ((pos : Int)).toNat)), (37, .bool (nameB (s.extract 0 ((pos : Int)).toNat)))] [(4, .bool (nameB (s.extract 0 ((pos : Int)).toNat)))] ((True) ∧ (True) ∧ (∀ w, (Instr.sliceAt 9 (.string s) none (some (.int .i64 (pos : Int))) none).run Try.prog w = .ok (.string (s.extract 0 ((pos : Int)).toNat)) w) ∧ (Callable Try.prog 11 ∧ CallOk Try.prog (On w28) 11 [.string (s.extract 0 ((pos : Int)).toNat)].toArray (.bool (nameB (s.extract 0 ((pos : Int)).toNat)))) ∧ (True) ∧ True) hA H ⟨trivial, trivial, fun w => slice_str_h Try.underlying9 w (by omega) (by omega), ⟨callable_of, callOk_of fun w hw => by exact name_any (s.extract 0 ((pos : Int)).toNat) w⟩, trivial, trivial⟩ fun a w31 hA H _ => ?_
        refine hK30 _ _ ?_
        refine go_ret_ ?_
        refine ret_one 4 (.bool (nameB (s.extract 0 ((pos : Int)).toNat))) hA ?_
        exact ans_b (by have hn := hhb6.2; rw [show ((pos : Int)).toNat = pos from by omega]; exact name_cut hP (by omega) (by omega) hn) H.below
      · have hhb29 := (aF hb29).imp (fun h => of_decide_eq_false h) (fun h => of_decide_eq_false h)
        refine go_skip ?_
        refine hK26 _ _ ?_
        refine q_reg [] [(0, .string s), (1, .int .u8 n), (5, .int .i64 (k + 1)), (21, .pointer (some ⟨b14, 0, none⟩))] ((True) ∧ (InR .i64 (k + 1)) ∧ (True) ∧ True) hA H ⟨trivial, ⟨by omega, by omega⟩, trivial, trivial⟩ fun a w32 hA H _ => ?_
        refine ⟨(pos + (Utf8.decode s pos).2, k + 1, l ++ [(pos, ((Utf8.decode s pos).1 : Int))]), ⟨env_sub _ hA, ⟨_, H⟩, ?_⟩, ?_⟩
        · (try dsimp only); exact ⟨by omega, by omega, rune_fits hp19, pre_step hP hp19⟩
        · (try dsimp only); omega
    · skip
      refine q_list 1 1 [] [(0, .string s), (1, .int .u8 n), (5, .int .i64 k), (21, .pointer (some ⟨b14, 0, none⟩)), (22, .tuple #[.bool false]), (23, .bool false)] ((True) ∧ True) hA H ⟨trivial, trivial⟩ fun a w33 hA H _ => ?_
      refine list_end ?_
      refine hK18 _ _ ?_
      refine go_seq fun K34 hK34 => ?_
      refine go_cond hA (.tmp 23) false (fun h => by cases h) (fun _ => ?_)
      refine go_exit 0 ?_
      refine hK11 _ _ ?_
      refine go_seq fun K36 hK36 => ?_
      refine q_reg [] [(4, .bool true)] ((True) ∧ True) hA H ⟨trivial, trivial⟩ fun a w37 hA H _ => ?_
      refine hK36 _ _ ?_
      refine go_ret_ ?_
      refine ret_one 4 (.bool true) hA ?_
      exact ans_b rfl H.below

end Go.Proofs.Ytbdgelipabndaaa
