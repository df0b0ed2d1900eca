/-
  Walks, written by program: Name, Number, Bad, Split, Rune.
-/
import Derived.Test.YtbdgelipabndaaaProg
import Derived.Test.YtbdgelipabndaaaWalkW1
set_option linter.unusedSimpArgs false
set_option linter.unusedVariables false
namespace Go.Proofs.Ytbdgelipabndaaa
open Go.RowKit

set_option maxRecDepth 100000 in
set_option maxHeartbeats 1000000 in
theorem name_any (s : ByteArray) (w : World) :
  Calls Try.prog 11 [.string s].toArray w (Ans (.bool (nameB s)) w) := by
  refine enter Try.f11 42 Try.func11 fun a hA => ?_
  replace hA := env_sub [(0, .string s)] hA
  have H := Fr.start (org w)
  refine go_seq fun K1 hK1 => ?_
  refine q_reg [] [(0, .string s)] ((True) ∧ True) hA H ⟨trivial, trivial⟩ fun a w2 hA H hG => ?_
  refine hK1 _ _ ?_
  refine go_seq fun K3 hK3 => ?_
  refine q_reg [] [(0, .string s), (3, .int .i64 0), (4, .int .i64 0)] ((True) ∧ (True) ∧ True) hA H ⟨trivial, trivial, trivial⟩ fun a w4 hA H hG => ?_
  refine hK3 _ _ ?_
  refine go_seq fun K5 hK5 => ?_
  refine go_seq fun K6 hK6 => ?_
  refine region_list ?_
  refine q_list 0 1 [] [(3, .int .i64 0), (4, .int .i64 0), (7, .string s)] ((True) ∧ True) hA H ⟨trivial, trivial⟩ fun a w7 hA H hG => ?_
  refine list_at 1 ?_; refine q_range 1 8 9 (.tmp 7) s [(3, .int .i64 0), (4, .int .i64 0)] hA H Try.underlying9 fun b8 a w9 H hA hG hge_b8 => ?_
  clear hge_b8
  refine list_end ?_
  refine hK6 _ _ ?_
  refine go_block 0 ?_
  refine go_loop_ (Nat × Int × Int) (fun x_ a W => (fun (pos : Nat) (n : Int) (k : Int) => EnvOk 42 a (keepEnv [(3, .int .i64 n), (4, .int .i64 k), (8, .pointer (some ⟨b8, 0, none⟩))]) ∧ (∃ S, Fr (org w) W S [.iter b8 s pos]) ∧ 0 ≤ n ∧ n ≤ 16 ∧ 0 ≤ k ∧ k ≤ 3 ∧ nameGo (runes s pos) n k = nameB s) x_.1 x_.2.1 x_.2.2) (fun x_ => (fun (pos : Nat) (n : Int) (k : Int) => s.size - pos) x_.1 x_.2.1 x_.2.2) (0, 0, 0) ?_ (fun x_ a w11 hI => ?_)
  · (try dsimp only); exact ⟨env_sub _ hA, ⟨_, H⟩, by omega, by omega, by omega, by omega, rfl⟩
  obtain ⟨pos, n, k⟩ := x_
  obtain ⟨hA, ⟨S, H⟩, h1, h2, h3, h4, hi⟩ := hI
  try dsimp only at h1 h2 h3 h4 hi
  refine go_seq fun K12 hK12 => ?_
  refine region_list ?_
  refine list_at 0 ?_; refine q_next 0 9 (.tmp 8) 0 b8 s pos [(3, .int .i64 n), (4, .int .i64 k), (8, .pointer (some ⟨b8, 0, none⟩))] hA H rfl (fun hp13 a w14 H hA hG => ?_) (fun hp13 a hA => ?_)
  · replace H : Fr _ _ _ [.iter b8 s (pos + (Utf8.decode s pos).2)] := H
    have hwd := width_pos s pos hp13
    refine q_list 1 1 [] [(3, .int .i64 n), (4, .int .i64 k), (8, .pointer (some ⟨b8, 0, none⟩)), (9, .tuple #[.bool true, .int .i64 (pos : Int), .int .i32 ((Utf8.decode s pos).1 : Int)]), (10, .bool true)] ((True) ∧ True) hA H ⟨trivial, trivial⟩ fun a w15 hA H hG => ?_
    refine list_end ?_
    refine hK12 _ _ ?_
    refine go_seq fun K16 hK16 => ?_
    refine go_cond hA (.tmp 10) true (fun _ => ?_) (fun h => by cases h)
    refine go_skip ?_
    refine hK16 _ _ ?_
    refine go_block 1 ?_
    refine go_seq fun K18 hK18 => ?_
    refine q_reg [] [(3, .int .i64 n), (4, .int .i64 k), (6, .int .i32 ((Utf8.decode s pos).1 : Int)), (8, .pointer (some ⟨b8, 0, none⟩))] ((True) ∧ (True) ∧ True) hA H ⟨trivial, trivial, trivial⟩ fun a w19 hA H hG => ?_
    refine hK18 _ _ ?_
    refine go_seq fun K20 hK20 => ?_
    refine q_reg [] [(3, .int .i64 (n + 1)), (4, .int .i64 k), (6, .int .i32 ((Utf8.decode s pos).1 : Int)), (8, .pointer (some ⟨b8, 0, none⟩))] ((True) ∧ (InR .i64 (n + 1)) ∧ (True) ∧ True) hA H ⟨trivial, ⟨by omega, by omega⟩, trivial, trivial⟩ fun a w21 hA H hG => ?_
    refine hK20 _ _ ?_
    refine go_seq fun K22 hK22 => ?_
    refine go_seq fun K23 hK23 => ?_
    refine q_reg [(15, .int .i64 (cls ((Utf8.decode s pos).1 : Int)))] [(3, .int .i64 (n + 1)), (4, .int .i64 k), (8, .pointer (some ⟨b8, 0, none⟩)), (15, .int .i64 (cls ((Utf8.decode s pos).1 : Int)))] ((True) ∧ (Callable Try.prog 17 ∧ CallOk Try.prog (On w21) 17 [.int .i32 ((Utf8.decode s pos).1 : Int)].toArray (.int .i64 (cls ((Utf8.decode s pos).1 : Int)))) ∧ True) hA H ⟨trivial, ⟨callable_of, callOk_of fun w hw => by exact class_any ((Utf8.decode s pos).1 : Int) w⟩, trivial⟩ fun a w24 hA H hG => ?_
    refine hK23 _ _ ?_
    refine go_block 2 ?_
    refine go_seq fun K25 hK25 => ?_
    refine q_reg [] [(3, .int .i64 (n + 1)), (4, .int .i64 k), (8, .pointer (some ⟨b8, 0, none⟩)), (15, .int .i64 (cls ((Utf8.decode s pos).1 : Int))), (16, .bool (decide (cls ((Utf8.decode s pos).1 : Int) = 1)))] ((True) ∧ (True) ∧ True) hA H ⟨trivial, trivial, trivial⟩ fun a w26 hA H hG => ?_
    refine hK25 _ _ ?_
    refine go_cond hA (.tmp 16) (decide (cls ((Utf8.decode s pos).1 : Int) = 1)) (fun hb27 => ?_) (fun hb27 => ?_)
    · have hhb27 := of_decide_eq_true hb27
      refine go_seq fun K28 hK28 => ?_
      refine q_reg [] [(3, .int .i64 (n + 1)), (4, .int .i64 k), (8, .pointer (some ⟨b8, 0, none⟩)), (19, .bool (decide ((0 : Int) < k)))] ((True) ∧ (True) ∧ True) hA H ⟨trivial, trivial, trivial⟩ fun a w29 hA H hG => ?_
      refine hK28 _ _ ?_
      refine go_cond hA (.tmp 19) (decide ((0 : Int) < k)) (fun hb30 => ?_) (fun hb30 => ?_)
      · have hhb30 := of_decide_eq_true hb30
        refine go_seq fun K31 hK31 => ?_
        refine q_reg [] [(2, .bool false)] ((True) ∧ True) hA H ⟨trivial, trivial⟩ fun a w32 hA H hG => ?_
        refine hK31 _ _ ?_
        refine go_ret_ ?_
        refine ret_one 2 (.bool false) hA ?_
        exact ans_b (by rw [← hi]; first | (rw [runes_cons s pos hp13]; simp only [nameGo]; simp [hhb27, hhb30]; done) | (rw [runes_cons s pos hp13]; simp only [nameGo]; simp [hhb27, hhb30]; intros; omega) | (rw [runes_nil s pos hp13]; rfl)) H.below
      · have hhb30 := of_decide_eq_false hb30
        refine go_skip ?_
        refine hK22 _ _ ?_
        refine go_seq fun K33 hK33 => ?_
        refine q_reg [] [(3, .int .i64 (n + 1)), (4, .int .i64 k), (8, .pointer (some ⟨b8, 0, none⟩)), (39, .bool ((decide ((16 : Int) < n + 1)) || (decide ((3 : Int) < k))))] ((True) ∧ (True) ∧ (True) ∧ ((decide ((16 : Int) < n + 1)) = false → True) ∧ ((decide ((16 : Int) < n + 1)) = false → True) ∧ (True) ∧ True) hA H ⟨trivial, trivial, trivial, fun _ => trivial, fun _ => trivial, trivial, trivial⟩ fun a w34 hA H hG => ?_
        refine hK33 _ _ ?_
        refine go_cond hA (.tmp 39) ((decide ((16 : Int) < n + 1)) || (decide ((3 : Int) < k))) (fun hb35 => ?_) (fun hb35 => ?_)
        · have hhb35 := (oT hb35).imp (fun h => of_decide_eq_true h) (fun h => of_decide_eq_true h)
          refine go_seq fun K36 hK36 => ?_
          refine q_reg [] [(2, .bool false)] ((True) ∧ True) hA H ⟨trivial, trivial⟩ fun a w37 hA H hG => ?_
          refine hK36 _ _ ?_
          refine go_ret_ ?_
          refine ret_one 2 (.bool false) hA ?_
          exact ans_b (by rw [← hi]; first | (rw [runes_cons s pos hp13]; simp only [nameGo]; simp [hhb27, hhb30, hhb35]; done) | (rw [runes_cons s pos hp13]; simp only [nameGo]; simp [hhb27, hhb30, hhb35]; intros; omega) | (rw [runes_nil s pos hp13]; rfl)) H.below
        · have hhb35 := (⟨of_decide_eq_false ((oF hb35).1), of_decide_eq_false ((oF hb35).2)⟩ : _ ∧ _)
          refine go_skip ?_
          refine ⟨(pos + (Utf8.decode s pos).2, n + 1, k), ⟨env_sub _ hA, ⟨_, H⟩, ?_⟩, ?_⟩
          · (try dsimp only); exact ⟨by omega, by omega, by omega, by omega, by have hi2 := hi; rw [runes_cons s pos hp13] at hi2; simp only [nameGo] at hi2; simp [hhb27, hhb30, hhb35] at hi2; exact hi2⟩
          · (try dsimp only); omega
    · have hhb27 := of_decide_eq_false hb27
      refine go_seq fun K38 hK38 => ?_
      refine q_reg [] [(3, .int .i64 (n + 1)), (4, .int .i64 k), (8, .pointer (some ⟨b8, 0, none⟩)), (15, .int .i64 (cls ((Utf8.decode s pos).1 : Int))), (20, .bool (decide (cls ((Utf8.decode s pos).1 : Int) = 2)))] ((True) ∧ (True) ∧ True) hA H ⟨trivial, trivial, trivial⟩ fun a w39 hA H hG => ?_
      refine hK38 _ _ ?_
      refine go_cond hA (.tmp 20) (decide (cls ((Utf8.decode s pos).1 : Int) = 2)) (fun hb40 => ?_) (fun hb40 => ?_)
      · have hhb40 := of_decide_eq_true hb40
        refine go_seq fun K41 hK41 => ?_
        refine q_reg [] [(3, .int .i64 (n + 1)), (4, .int .i64 k), (8, .pointer (some ⟨b8, 0, none⟩)), (27, .bool ((decide (n + 1 = 1)) || (decide ((0 : Int) < k))))] ((True) ∧ (True) ∧ (True) ∧ ((decide (n + 1 = 1)) = false → True) ∧ ((decide (n + 1 = 1)) = false → True) ∧ (True) ∧ True) hA H ⟨trivial, trivial, trivial, fun _ => trivial, fun _ => trivial, trivial, trivial⟩ fun a w42 hA H hG => ?_
        refine hK41 _ _ ?_
        refine go_cond hA (.tmp 27) ((decide (n + 1 = 1)) || (decide ((0 : Int) < k))) (fun hb43 => ?_) (fun hb43 => ?_)
        · have hhb43 := (oT hb43).imp (fun h => of_decide_eq_true h) (fun h => of_decide_eq_true h)
          refine go_seq fun K44 hK44 => ?_
          refine q_reg [] [(2, .bool false)] ((True) ∧ True) hA H ⟨trivial, trivial⟩ fun a w45 hA H hG => ?_
          refine hK44 _ _ ?_
          refine go_ret_ ?_
          refine ret_one 2 (.bool false) hA ?_
          exact ans_b (by rw [← hi]; first | (rw [runes_cons s pos hp13]; simp only [nameGo]; simp [hhb27, hhb40, hhb43]; done) | (rw [runes_cons s pos hp13]; simp only [nameGo]; simp [hhb27, hhb40, hhb43]; intros; omega) | (rw [runes_nil s pos hp13]; rfl)) H.below
        · have hhb43 := (⟨of_decide_eq_false ((oF hb43).1), of_decide_eq_false ((oF hb43).2)⟩ : _ ∧ _)
          refine go_skip ?_
          refine hK22 _ _ ?_
          refine go_seq fun K46 hK46 => ?_
          refine q_reg [] [(3, .int .i64 (n + 1)), (4, .int .i64 k), (8, .pointer (some ⟨b8, 0, none⟩)), (39, .bool ((decide ((16 : Int) < n + 1)) || (decide ((3 : Int) < k))))] ((True) ∧ (True) ∧ (True) ∧ ((decide ((16 : Int) < n + 1)) = false → True) ∧ ((decide ((16 : Int) < n + 1)) = false → True) ∧ (True) ∧ True) hA H ⟨trivial, trivial, trivial, fun _ => trivial, fun _ => trivial, trivial, trivial⟩ fun a w47 hA H hG => ?_
          refine hK46 _ _ ?_
          refine go_cond hA (.tmp 39) ((decide ((16 : Int) < n + 1)) || (decide ((3 : Int) < k))) (fun hb48 => ?_) (fun hb48 => ?_)
          · have hhb48 := (oT hb48).imp (fun h => of_decide_eq_true h) (fun h => of_decide_eq_true h)
            refine go_seq fun K49 hK49 => ?_
            refine q_reg [] [(2, .bool false)] ((True) ∧ True) hA H ⟨trivial, trivial⟩ fun a w50 hA H hG => ?_
            refine hK49 _ _ ?_
            refine go_ret_ ?_
            refine ret_one 2 (.bool false) hA ?_
            exact ans_b (by rw [← hi]; first | (rw [runes_cons s pos hp13]; simp only [nameGo]; simp [hhb27, hhb40, hhb43, hhb48]; done) | (rw [runes_cons s pos hp13]; simp only [nameGo]; simp [hhb27, hhb40, hhb43, hhb48]; intros; omega) | (rw [runes_nil s pos hp13]; rfl)) H.below
          · have hhb48 := (⟨of_decide_eq_false ((oF hb48).1), of_decide_eq_false ((oF hb48).2)⟩ : _ ∧ _)
            refine go_skip ?_
            refine ⟨(pos + (Utf8.decode s pos).2, n + 1, k), ⟨env_sub _ hA, ⟨_, H⟩, ?_⟩, ?_⟩
            · (try dsimp only); exact ⟨by omega, by omega, by omega, by omega, by have hi2 := hi; rw [runes_cons s pos hp13] at hi2; simp only [nameGo] at hi2; simp [hhb27, hhb40, hhb43, hhb48] at hi2; exact hi2⟩
            · (try dsimp only); omega
      · have hhb40 := of_decide_eq_false hb40
        refine go_seq fun K51 hK51 => ?_
        refine q_reg [] [(3, .int .i64 (n + 1)), (4, .int .i64 k), (8, .pointer (some ⟨b8, 0, none⟩)), (28, .bool (decide (cls ((Utf8.decode s pos).1 : Int) = 3)))] ((True) ∧ (True) ∧ True) hA H ⟨trivial, trivial, trivial⟩ fun a w52 hA H hG => ?_
        refine hK51 _ _ ?_
        refine go_cond hA (.tmp 28) (decide (cls ((Utf8.decode s pos).1 : Int) = 3)) (fun hb53 => ?_) (fun hb53 => ?_)
        · have hhb53 := of_decide_eq_true hb53
          refine go_seq fun K54 hK54 => ?_
          refine go_seq fun K55 hK55 => ?_
          refine q_reg [] [(3, .int .i64 (n + 1)), (4, .int .i64 k), (8, .pointer (some ⟨b8, 0, none⟩)), (31, .bool (decide (n + 1 = 1)))] ((True) ∧ (True) ∧ True) hA H ⟨trivial, trivial, trivial⟩ fun a w56 hA H hG => ?_
          refine hK55 _ _ ?_
          refine go_cond hA (.tmp 31) (decide (n + 1 = 1)) (fun hb57 => ?_) (fun hb57 => ?_)
          · have hhb57 := of_decide_eq_true hb57
            refine go_seq fun K58 hK58 => ?_
            refine q_reg [] [(2, .bool false)] ((True) ∧ True) hA H ⟨trivial, trivial⟩ fun a w59 hA H hG => ?_
            refine hK58 _ _ ?_
            refine go_ret_ ?_
            refine ret_one 2 (.bool false) hA ?_
            exact ans_b (by rw [← hi]; first | (rw [runes_cons s pos hp13]; simp only [nameGo]; simp [hhb27, hhb40, hhb53, hhb57]; done) | (rw [runes_cons s pos hp13]; simp only [nameGo]; simp [hhb27, hhb40, hhb53, hhb57]; intros; omega) | (rw [runes_nil s pos hp13]; rfl)) H.below
          · have hhb57 := of_decide_eq_false hb57
            refine go_skip ?_
            refine hK54 _ _ ?_
            refine q_reg [] [(3, .int .i64 (n + 1)), (4, .int .i64 (k + 1)), (8, .pointer (some ⟨b8, 0, none⟩))] ((True) ∧ (InR .i64 (k + 1)) ∧ (True) ∧ True) hA H ⟨trivial, ⟨by omega, by omega⟩, trivial, trivial⟩ fun a w60 hA H hG => ?_
            refine hK22 _ _ ?_
            refine go_seq fun K61 hK61 => ?_
            refine q_reg [] [(3, .int .i64 (n + 1)), (4, .int .i64 (k + 1)), (8, .pointer (some ⟨b8, 0, none⟩)), (39, .bool ((decide ((16 : Int) < n + 1)) || (decide ((3 : Int) < k + 1))))] ((True) ∧ (True) ∧ (True) ∧ ((decide ((16 : Int) < n + 1)) = false → True) ∧ ((decide ((16 : Int) < n + 1)) = false → True) ∧ (True) ∧ True) hA H ⟨trivial, trivial, trivial, fun _ => trivial, fun _ => trivial, trivial, trivial⟩ fun a w62 hA H hG => ?_
            refine hK61 _ _ ?_
            refine go_cond hA (.tmp 39) ((decide ((16 : Int) < n + 1)) || (decide ((3 : Int) < k + 1))) (fun hb63 => ?_) (fun hb63 => ?_)
            · have hhb63 := (oT hb63).imp (fun h => of_decide_eq_true h) (fun h => of_decide_eq_true h)
              refine go_seq fun K64 hK64 => ?_
              refine q_reg [] [(2, .bool false)] ((True) ∧ True) hA H ⟨trivial, trivial⟩ fun a w65 hA H hG => ?_
              refine hK64 _ _ ?_
              refine go_ret_ ?_
              refine ret_one 2 (.bool false) hA ?_
              exact ans_b (by rw [← hi]; first | (rw [runes_cons s pos hp13]; simp only [nameGo]; simp [hhb27, hhb40, hhb53, hhb57, hhb63]; done) | (rw [runes_cons s pos hp13]; simp only [nameGo]; simp [hhb27, hhb40, hhb53, hhb57, hhb63]; intros; omega) | (rw [runes_nil s pos hp13]; rfl)) H.below
            · have hhb63 := (⟨of_decide_eq_false ((oF hb63).1), of_decide_eq_false ((oF hb63).2)⟩ : _ ∧ _)
              refine go_skip ?_
              refine ⟨(pos + (Utf8.decode s pos).2, n + 1, k + 1), ⟨env_sub _ hA, ⟨_, H⟩, ?_⟩, ?_⟩
              · (try dsimp only); exact ⟨by omega, by omega, by omega, by omega, by have hi2 := hi; rw [runes_cons s pos hp13] at hi2; simp only [nameGo] at hi2; simp [hhb27, hhb40, hhb53, hhb57, hhb63] at hi2; exact hi2⟩
              · (try dsimp only); omega
        · have hhb53 := of_decide_eq_false hb53
          refine go_seq fun K66 hK66 => ?_
          refine q_reg [] [(2, .bool false)] ((True) ∧ True) hA H ⟨trivial, trivial⟩ fun a w67 hA H hG => ?_
          refine hK66 _ _ ?_
          refine go_ret_ ?_
          refine ret_one 2 (.bool false) hA ?_
          exact ans_b (by rw [← hi]; first | (rw [runes_cons s pos hp13]; simp only [nameGo]; simp [hhb27, hhb40, hhb53]; done) | (rw [runes_cons s pos hp13]; simp only [nameGo]; simp [hhb27, hhb40, hhb53]; intros; omega) | (rw [runes_nil s pos hp13]; rfl)) H.below
  · skip
    refine q_list 1 1 [] [(3, .int .i64 n), (4, .int .i64 k), (8, .pointer (some ⟨b8, 0, none⟩)), (9, .tuple #[.bool false]), (10, .bool false)] ((True) ∧ True) hA H ⟨trivial, trivial⟩ fun a w68 hA H hG => ?_
    refine list_end ?_
    refine hK12 _ _ ?_
    refine go_seq fun K69 hK69 => ?_
    refine go_cond hA (.tmp 10) false (fun h => by cases h) (fun _ => ?_)
    refine go_exit 0 ?_
    refine hK5 _ _ ?_
    refine go_seq fun K71 hK71 => ?_
    refine q_reg [] [(2, .bool (decide ((0 : Int) < n)))] ((True) ∧ (True) ∧ (True) ∧ True) hA H ⟨trivial, trivial, trivial, trivial⟩ fun a w72 hA H hG => ?_
    refine hK71 _ _ ?_
    refine go_ret_ ?_
    refine ret_one 2 (.bool (decide ((0 : Int) < n))) hA ?_
    exact ans_b (by rw [← hi]; first | (rw [runes_cons s pos hp13]; simp only [nameGo]; simp []; done) | (rw [runes_cons s pos hp13]; simp only [nameGo]; simp []; intros; omega) | (rw [runes_nil s pos hp13]; rfl)) H.below

set_option maxRecDepth 100000 in
set_option maxHeartbeats 1000000 in
theorem number_any (s : ByteArray) (w : World) :
  Calls Try.prog 13 [.string s].toArray w (Ans (.tuple #[.int .i64 (numB s).1, .bool (numB s).2]) w) := by
  refine enter Try.f13 39 Try.func13 fun a hA => ?_
  replace hA := env_sub [(0, .string s)] hA
  have H := Fr.start (org w)
  refine go_seq fun K1 hK1 => ?_
  refine q_reg [] [(0, .string s)] ((True) ∧ (True) ∧ True) hA H ⟨trivial, trivial, trivial⟩ fun a w2 hA H hG => ?_
  refine hK1 _ _ ?_
  refine go_seq fun K3 hK3 => ?_
  refine go_seq fun K4 hK4 => ?_
  refine q_reg [] [(0, .string s), (23, .bool (((s.toList == (⟨#[]⟩ : ByteArray).toList) || (decide ((9 : Int) < (s.size : Int)))) || ((decide ((1 : Int) < (s.size : Int))) && (decide (StrAt s 0 = 48)))))] ((True) ∧ (True) ∧ (True) ∧ ((s.toList == (⟨#[]⟩ : ByteArray).toList) = false → True) ∧ ((s.toList == (⟨#[]⟩ : ByteArray).toList) = false → True) ∧ ((s.toList == (⟨#[]⟩ : ByteArray).toList) = false → True) ∧ (True) ∧ (True) ∧ (((s.toList == (⟨#[]⟩ : ByteArray).toList) || (decide ((9 : Int) < (s.size : Int)))) = false → True) ∧ (((s.toList == (⟨#[]⟩ : ByteArray).toList) || (decide ((9 : Int) < (s.size : Int)))) = false → True) ∧ (((s.toList == (⟨#[]⟩ : ByteArray).toList) || (decide ((9 : Int) < (s.size : Int)))) = false → True) ∧ (((s.toList == (⟨#[]⟩ : ByteArray).toList) || (decide ((9 : Int) < (s.size : Int)))) = false → True) ∧ (((s.toList == (⟨#[]⟩ : ByteArray).toList) || (decide ((9 : Int) < (s.size : Int)))) = false → (decide ((1 : Int) < (s.size : Int))) = true → True) ∧ (((s.toList == (⟨#[]⟩ : ByteArray).toList) || (decide ((9 : Int) < (s.size : Int)))) = false → (decide ((1 : Int) < (s.size : Int))) = true → 0 ≤ (0 : Int) ∧ 0 < (s.size : Int)) ∧ (((s.toList == (⟨#[]⟩ : ByteArray).toList) || (decide ((9 : Int) < (s.size : Int)))) = false → (decide ((1 : Int) < (s.size : Int))) = true → True) ∧ (((s.toList == (⟨#[]⟩ : ByteArray).toList) || (decide ((9 : Int) < (s.size : Int)))) = false → True) ∧ (True) ∧ True) hA H ⟨trivial, trivial, trivial, fun _ => trivial, fun _ => trivial, fun _ => trivial, trivial, trivial, fun _ => trivial, fun _ => trivial, fun _ => trivial, fun _ => trivial, fun _ _ => trivial, fun hg0 hg1 => by replace hg0 := (⟨str_F ((oF hg0).1), of_decide_eq_false ((oF hg0).2)⟩ : _ ∧ _); replace hg1 := of_decide_eq_true hg1; exact ⟨by omega, by omega⟩, fun _ _ => trivial, fun _ => trivial, trivial, trivial⟩ fun a w5 hA H hG => ?_
  refine hK4 _ _ ?_
  refine go_cond hA (.tmp 23) (((s.toList == (⟨#[]⟩ : ByteArray).toList) || (decide ((9 : Int) < (s.size : Int)))) || ((decide ((1 : Int) < (s.size : Int))) && (decide (StrAt s 0 = 48)))) (fun hb6 => ?_) (fun hb6 => ?_)
  · have hhb6 := (oT hb6).imp (fun h => (oT h).imp (fun h => str_T h) (fun h => of_decide_eq_true h)) (fun h => (⟨of_decide_eq_true ((aT h).1), of_decide_eq_true ((aT h).2)⟩ : _ ∧ _))
    refine go_seq fun K7 hK7 => ?_
    refine q_reg [] [(2, .int .i64 0), (3, .bool false)] ((True) ∧ (True) ∧ True) hA H ⟨trivial, trivial, trivial⟩ fun a w8 hA H hG => ?_
    refine hK7 _ _ ?_
    refine go_ret_ ?_
    refine ret_two 2 3 (.int .i64 0) (.bool false) hA ?_
    exact ans_bi (by rw [numB_no hhb6]; exact ⟨rfl, rfl⟩) H.below
  · have hhb6 := (⟨(⟨str_F ((oF ((oF hb6).1)).1), of_decide_eq_false ((oF ((oF hb6).1)).2)⟩ : _ ∧ _), (aF ((oF hb6).2)).imp (fun h => of_decide_eq_false h) (fun h => of_decide_eq_false h)⟩ : _ ∧ _)
    refine go_skip ?_
    refine hK3 _ _ ?_
    refine go_seq fun K9 hK9 => ?_
    refine q_reg [] [(0, .string s), (4, .int .i64 0)] ((True) ∧ True) hA H ⟨trivial, trivial⟩ fun a w10 hA H hG => ?_
    refine hK9 _ _ ?_
    refine go_seq fun K11 hK11 => ?_
    refine go_seq fun K12 hK12 => ?_
    refine region_list ?_
    refine q_list 0 1 [] [(4, .int .i64 0), (24, .string s)] ((True) ∧ True) hA H ⟨trivial, trivial⟩ fun a w13 hA H hG => ?_
    refine list_at 1 ?_; refine q_range 1 25 9 (.tmp 24) s [(4, .int .i64 0)] hA H Try.underlying9 fun b14 a w15 H hA hG hge_b14 => ?_
    clear hge_b14
    refine list_end ?_
    refine hK12 _ _ ?_
    refine go_block 0 ?_
    refine go_loop_ (Nat × Int) (fun x_ a W => (fun (pos : Nat) (n : Int) => EnvOk 39 a (keepEnv [(4, .int .i64 n), (25, .pointer (some ⟨b14, 0, none⟩))]) ∧ (∃ S, Fr (org w) W S [.iter b14 s pos]) ∧ 0 ≤ n ∧ n < (10 : Int) ^ pos ∧ numGo (runes s pos) n = numB s) x_.1 x_.2) (fun x_ => (fun (pos : Nat) (n : Int) => s.size - pos) x_.1 x_.2) (0, 0) ?_ (fun x_ a w17 hI => ?_)
    · (try dsimp only); exact ⟨env_sub _ hA, ⟨_, H⟩, by omega, by decide, numB_go hhb6⟩
    obtain ⟨pos, n⟩ := x_
    obtain ⟨hA, ⟨S, H⟩, h1, h2, hi⟩ := hI
    try dsimp only at h1 h2 hi
    refine go_seq fun K18 hK18 => ?_
    refine region_list ?_
    refine list_at 0 ?_; refine q_next 0 26 (.tmp 25) 0 b14 s pos [(4, .int .i64 n), (25, .pointer (some ⟨b14, 0, none⟩))] hA H rfl (fun hp19 a w20 H hA hG => ?_) (fun hp19 a hA => ?_)
    · replace H : Fr _ _ _ [.iter b14 s (pos + (Utf8.decode s pos).2)] := H
      have hwd := width_pos s pos hp19
      refine q_list 1 1 [] [(4, .int .i64 n), (25, .pointer (some ⟨b14, 0, none⟩)), (26, .tuple #[.bool true, .int .i64 (pos : Int), .int .i32 ((Utf8.decode s pos).1 : Int)]), (27, .bool true)] ((True) ∧ True) hA H ⟨trivial, trivial⟩ fun a w21 hA H hG => ?_
      refine list_end ?_
      refine hK18 _ _ ?_
      refine go_seq fun K22 hK22 => ?_
      refine go_cond hA (.tmp 27) true (fun _ => ?_) (fun h => by cases h)
      refine go_skip ?_
      refine hK22 _ _ ?_
      refine go_block 1 ?_
      refine go_seq fun K24 hK24 => ?_
      refine q_reg [] [(4, .int .i64 n), (6, .int .i32 ((Utf8.decode s pos).1 : Int)), (25, .pointer (some ⟨b14, 0, none⟩))] ((True) ∧ (True) ∧ True) hA H ⟨trivial, trivial, trivial⟩ fun a w25 hA H hG => ?_
      refine hK24 _ _ ?_
      refine go_seq fun K26 hK26 => ?_
      refine go_seq fun K27 hK27 => ?_
      refine q_reg [(30, .int .i64 (cls ((Utf8.decode s pos).1 : Int)))] [(4, .int .i64 n), (6, .int .i32 ((Utf8.decode s pos).1 : Int)), (25, .pointer (some ⟨b14, 0, none⟩)), (31, .bool (!decide (cls ((Utf8.decode s pos).1 : Int) = 2)))] ((True) ∧ (Callable Try.prog 17 ∧ CallOk Try.prog (On w25) 17 [.int .i32 ((Utf8.decode s pos).1 : Int)].toArray (.int .i64 (cls ((Utf8.decode s pos).1 : Int)))) ∧ (True) ∧ True) hA H ⟨trivial, ⟨callable_of, callOk_of fun w hw => by exact class_any ((Utf8.decode s pos).1 : Int) w⟩, trivial, trivial⟩ fun a w28 hA H hG => ?_
      refine hK27 _ _ ?_
      refine go_cond hA (.tmp 31) (!decide (cls ((Utf8.decode s pos).1 : Int) = 2)) (fun hb29 => ?_) (fun hb29 => ?_)
      · have hhb29 := of_decide_eq_false (nT hb29)
        refine go_seq fun K30 hK30 => ?_
        refine q_reg [] [(2, .int .i64 0), (3, .bool false)] ((True) ∧ (True) ∧ True) hA H ⟨trivial, trivial, trivial⟩ fun a w31 hA H hG => ?_
        refine hK30 _ _ ?_
        refine go_ret_ ?_
        refine ret_two 2 3 (.int .i64 0) (.bool false) hA ?_
        exact ans_bi (by rw [← hi, runes_cons s pos hp19]; simp only [numGo]; rw [if_neg hhb29]; exact ⟨rfl, rfl⟩) H.below
      · have hhb29 := of_decide_eq_true (nF hb29)
        refine go_skip ?_
        refine hK26 _ _ ?_
        have hcl := hhb29
        have hd := cls_2 hcl
        have hn := pow_le (p := pos) (by have := hhb6; omega)
        refine q_reg [] [(4, .int .i64 ((10 * n) + (((Utf8.decode s pos).1 : Int) - 48))), (25, .pointer (some ⟨b14, 0, none⟩))] ((True) ∧ (InR .i64 (10 * n)) ∧ (True) ∧ (InR .i32 (((Utf8.decode s pos).1 : Int) - 48)) ∧ (InR .i64 (((Utf8.decode s pos).1 : Int) - 48)) ∧ (InR .i64 ((10 * n) + (((Utf8.decode s pos).1 : Int) - 48))) ∧ (True) ∧ True) hA H ⟨trivial, ⟨by omega, by omega⟩, trivial, ⟨by omega, by omega⟩, ⟨by omega, by omega⟩, ⟨by omega, by omega⟩, trivial, trivial⟩ fun a w32 hA H hG => ?_
        refine ⟨(pos + (Utf8.decode s pos).2, (10 * n) + (((Utf8.decode s pos).1 : Int) - 48)), ⟨env_sub _ hA, ⟨_, H⟩, ?_⟩, ?_⟩
        · (try dsimp only); exact ⟨by omega, pow_up h2 (by omega) (by omega), by have hi2 := hi; rw [runes_cons s pos hp19] at hi2; simp only [numGo, if_pos hcl] at hi2; exact hi2⟩
        · (try dsimp only); omega
    · skip
      refine q_list 1 1 [] [(4, .int .i64 n), (25, .pointer (some ⟨b14, 0, none⟩)), (26, .tuple #[.bool false]), (27, .bool false)] ((True) ∧ True) hA H ⟨trivial, trivial⟩ fun a w33 hA H hG => ?_
      refine list_end ?_
      refine hK18 _ _ ?_
      refine go_seq fun K34 hK34 => ?_
      refine go_cond hA (.tmp 27) false (fun h => by cases h) (fun _ => ?_)
      refine go_exit 0 ?_
      refine hK11 _ _ ?_
      refine go_seq fun K36 hK36 => ?_
      refine q_reg [] [(2, .int .i64 n), (3, .bool true)] ((True) ∧ (True) ∧ (True) ∧ True) hA H ⟨trivial, trivial, trivial, trivial⟩ fun a w37 hA H hG => ?_
      refine hK36 _ _ ?_
      refine go_ret_ ?_
      refine ret_two 2 3 (.int .i64 n) (.bool true) hA ?_
      exact ans_bi (by rw [← hi, runes_nil s pos hp19]; exact ⟨rfl, rfl⟩) H.below

set_option maxRecDepth 100000 in
set_option maxHeartbeats 1000000 in
theorem bad_any (s : ByteArray) (w : World) :
  Calls Try.prog 15 [.string s].toArray w (Ans (.tuple #[.int .i64 (badB s).1, .bool (badB s).2]) w) := by
  refine enter Try.f15 21 Try.func15 fun a hA => ?_
  replace hA := env_sub [(0, .string s)] hA
  have H := Fr.start (org w)
  refine go_seq fun K1 hK1 => ?_
  refine q_reg [] [(0, .string s)] ((True) ∧ (True) ∧ True) hA H ⟨trivial, trivial, trivial⟩ fun a w2 hA H hG => ?_
  refine hK1 _ _ ?_
  refine go_seq fun K3 hK3 => ?_
  refine go_seq fun K4 hK4 => ?_
  refine region_list ?_
  refine q_list 0 1 [] [(6, .string s)] ((True) ∧ True) hA H ⟨trivial, trivial⟩ fun a w5 hA H hG => ?_
  refine list_at 1 ?_; refine q_range 1 7 9 (.tmp 6) s [] hA H Try.underlying9 fun b6 a w7 H hA hG hge_b6 => ?_
  clear hge_b6
  refine list_end ?_
  refine hK4 _ _ ?_
  refine go_block 0 ?_
  refine go_loop_ (Nat) (fun x_ a W => (fun (pos : Nat) => EnvOk 21 a (keepEnv [(7, .pointer (some ⟨b6, 0, none⟩))]) ∧ (∃ S, Fr (org w) W S [.iter b6 s pos]) ∧ badGo (runes s pos) = badB s) x_) (fun x_ => (fun (pos : Nat) => s.size - pos) x_) (0) ?_ (fun pos a w9 hI => ?_)
  · (try dsimp only); exact ⟨env_sub _ hA, ⟨_, H⟩, rfl⟩
  obtain ⟨hA, ⟨S, H⟩, hi⟩ := hI
  try dsimp only at hi
  refine go_seq fun K10 hK10 => ?_
  refine region_list ?_
  refine list_at 0 ?_; refine q_next 0 8 (.tmp 7) 0 b6 s pos [(7, .pointer (some ⟨b6, 0, none⟩))] hA H rfl (fun hp11 a w12 H hA hG => ?_) (fun hp11 a hA => ?_)
  · replace H : Fr _ _ _ [.iter b6 s (pos + (Utf8.decode s pos).2)] := H
    have hwd := width_pos s pos hp11
    refine q_list 1 1 [] [(7, .pointer (some ⟨b6, 0, none⟩)), (8, .tuple #[.bool true, .int .i64 (pos : Int), .int .i32 ((Utf8.decode s pos).1 : Int)]), (9, .bool true)] ((True) ∧ True) hA H ⟨trivial, trivial⟩ fun a w13 hA H hG => ?_
    refine list_end ?_
    refine hK10 _ _ ?_
    refine go_seq fun K14 hK14 => ?_
    refine go_cond hA (.tmp 9) true (fun _ => ?_) (fun h => by cases h)
    refine go_skip ?_
    refine hK14 _ _ ?_
    refine go_block 1 ?_
    refine go_seq fun K16 hK16 => ?_
    refine q_reg [] [(4, .int .i64 (pos : Int)), (5, .int .i32 ((Utf8.decode s pos).1 : Int)), (7, .pointer (some ⟨b6, 0, none⟩))] ((True) ∧ (True) ∧ (True) ∧ (True) ∧ True) hA H ⟨trivial, trivial, trivial, trivial, trivial⟩ fun a w17 hA H hG => ?_
    refine hK16 _ _ ?_
    refine go_seq fun K18 hK18 => ?_
    refine q_reg [(13, .int .i64 (cls ((Utf8.decode s pos).1 : Int))), (17, .bool (markB ((Utf8.decode s pos).1 : Int)))] [(4, .int .i64 (pos : Int)), (7, .pointer (some ⟨b6, 0, none⟩)), (19, .bool ((decide (cls ((Utf8.decode s pos).1 : Int) = 0)) && (!(markB ((Utf8.decode s pos).1 : Int)))))] ((True) ∧ (Callable Try.prog 17 ∧ CallOk Try.prog (On w17) 17 [.int .i32 ((Utf8.decode s pos).1 : Int)].toArray (.int .i64 (cls ((Utf8.decode s pos).1 : Int)))) ∧ (True) ∧ (True) ∧ ((decide (cls ((Utf8.decode s pos).1 : Int) = 0)) = true → True) ∧ ((decide (cls ((Utf8.decode s pos).1 : Int) = 0)) = true → Callable Try.prog 23 ∧ CallOk Try.prog (On w17) 23 [.int .i32 ((Utf8.decode s pos).1 : Int)].toArray (.bool (markB ((Utf8.decode s pos).1 : Int)))) ∧ ((decide (cls ((Utf8.decode s pos).1 : Int) = 0)) = true → True) ∧ (True) ∧ True) hA H ⟨trivial, ⟨callable_of, callOk_of fun w hw => by exact class_any ((Utf8.decode s pos).1 : Int) w⟩, trivial, trivial, fun _ => trivial, fun _ => ⟨callable_of, callOk_of fun w hw => by exact mark_any ((Utf8.decode s pos).1 : Int) w⟩, fun _ => trivial, trivial, trivial⟩ fun a w19 hA H hG => ?_
    refine hK18 _ _ ?_
    refine go_cond hA (.tmp 19) ((decide (cls ((Utf8.decode s pos).1 : Int) = 0)) && (!(markB ((Utf8.decode s pos).1 : Int)))) (fun hb20 => ?_) (fun hb20 => ?_)
    · have hhb20 := (⟨of_decide_eq_true ((aT hb20).1), (nT ((aT hb20).2))⟩ : _ ∧ _)
      refine go_seq fun K21 hK21 => ?_
      refine q_reg [] [(2, .int .i64 (pos : Int)), (3, .bool true)] ((True) ∧ (True) ∧ (True) ∧ True) hA H ⟨trivial, trivial, trivial, trivial⟩ fun a w22 hA H hG => ?_
      refine hK21 _ _ ?_
      refine go_ret_ ?_
      refine ret_two 2 3 (.int .i64 (pos : Int)) (.bool true) hA ?_
      exact ans_bi (by rw [← hi, runes_cons s pos hp11]; simp only [badGo]; rw [if_pos ⟨hhb20.1, hhb20.2⟩]; exact ⟨rfl, rfl⟩) H.below
    · have hhb20 := (aF hb20).imp (fun h => of_decide_eq_false h) (fun h => (nF h))
      refine go_skip ?_
      refine ⟨(pos + (Utf8.decode s pos).2), ⟨env_sub _ hA, ⟨_, H⟩, ?_⟩, ?_⟩
      · (try dsimp only); exact by have hi2 := hi; rw [runes_cons s pos hp11] at hi2; simp only [badGo] at hi2; rw [if_neg (by intro hh; have h := hhb20; simp_all)] at hi2; exact hi2
      · (try dsimp only); omega
  · skip
    refine q_list 1 1 [] [(7, .pointer (some ⟨b6, 0, none⟩)), (8, .tuple #[.bool false]), (9, .bool false)] ((True) ∧ True) hA H ⟨trivial, trivial⟩ fun a w23 hA H hG => ?_
    refine list_end ?_
    refine hK10 _ _ ?_
    refine go_seq fun K24 hK24 => ?_
    refine go_cond hA (.tmp 9) false (fun h => by cases h) (fun _ => ?_)
    refine go_exit 0 ?_
    refine hK3 _ _ ?_
    refine go_seq fun K26 hK26 => ?_
    refine q_reg [] [(2, .int .i64 0), (3, .bool false)] ((True) ∧ (True) ∧ True) hA H ⟨trivial, trivial, trivial⟩ fun a w27 hA H hG => ?_
    refine hK26 _ _ ?_
    refine go_ret_ ?_
    refine ret_two 2 3 (.int .i64 0) (.bool false) hA ?_
    exact ans_bi (by rw [← hi, runes_nil s pos hp11]; exact ⟨rfl, rfl⟩) H.below

set_option maxRecDepth 100000 in
set_option maxHeartbeats 1000000 in
theorem split_any (s : ByteArray) (o : Orig) (hs : s.size ≤ 1000000000) :
  Calls Try.prog 10 [.string s].toArray o.w (Giv o (fun S v w' => Rd S w' v (wordsB s))) := by
  refine enter Try.f10 49 Try.func10 fun a hA => ?_
  replace hA := env_sub [(0, .string s)] hA
  have H := Fr.start o
  refine go_seq fun K1 hK1 => ?_
  refine q_reg [] [(0, .string s)] ((True) ∧ True) hA H ⟨trivial, trivial⟩ fun a w2 hA H hG => ?_
  refine hK1 _ _ ?_
  refine go_seq fun K3 hK3 => ?_
  refine q_reg [] [(0, .string s), (3, (.slice none 0 0))] ((True) ∧ True) hA H ⟨trivial, trivial⟩ fun a w4 hA H hG => ?_
  refine hK3 _ _ ?_
  refine go_seq fun K5 hK5 => ?_
  refine q_reg [] [(0, .string s), (3, (.slice none 0 0)), (4, .int .i64 (-1))] ((True) ∧ True) hA H ⟨trivial, trivial⟩ fun a w6 hA H hG => ?_
  refine hK5 _ _ ?_
  refine go_seq fun K7 hK7 => ?_
  refine go_seq fun K8 hK8 => ?_
  refine region_list ?_
  refine q_list 0 1 [] [(0, .string s), (3, (.slice none 0 0)), (4, .int .i64 (-1)), (8, .string s)] ((True) ∧ True) hA H ⟨trivial, trivial⟩ fun a w9 hA H hG => ?_
  refine list_at 1 ?_; refine q_range 1 9 9 (.tmp 8) s [(0, .string s), (3, (.slice none 0 0)), (4, .int .i64 (-1))] hA H Try.underlying9 fun b10 a w11 H hA hG hge_b10 => ?_
  clear hge_b10
  refine list_end ?_
  refine hK8 _ _ ?_
  refine go_block 0 ?_
  replace H := H.newRow (α := Int × ByteArray) 26
  replace H : Fr _ _ _ [.iter b10 s 0, .row 26 (.slice none 0 0) ([] : List (Int × ByteArray))] := H.swap
  refine go_loop_ (Nat × Value × Int × List (Int × ByteArray)) (fun x_ a W => (fun (pos : Nat) (v : Value) (b : Int) (l : List (Int × ByteArray)) => EnvOk 49 a (keepEnv [(0, .string s), (3, v), (4, .int .i64 b), (9, .pointer (some ⟨b10, 0, none⟩))]) ∧ (∃ S, Fr o W S [.iter b10 s pos, .row 26 v l]) ∧ -1 ≤ b ∧ b ≤ (pos : Int) ∧ b ≤ (s.size : Int) ∧ (l.length ≤ pos ∧ l.length ≤ s.size) ∧ spGo s (runes s pos) b l = wordsB s) x_.1 x_.2.1 x_.2.2.1 x_.2.2.2) (fun x_ => (fun (pos : Nat) (v : Value) (b : Int) (l : List (Int × ByteArray)) => s.size - pos) x_.1 x_.2.1 x_.2.2.1 x_.2.2.2) (0, .slice none 0 0, -1, []) ?_ (fun x_ a w13 hI => ?_)
  · (try dsimp only); exact ⟨env_sub _ hA, ⟨_, H⟩, by omega, by omega, by omega, by simp, rfl⟩
  obtain ⟨pos, v, b, l⟩ := x_
  obtain ⟨hA, ⟨S, H⟩, h1, h2, h3, h4, hi⟩ := hI
  try dsimp only at h1 h2 h3 h4 hi
  refine go_seq fun K14 hK14 => ?_
  refine region_list ?_
  refine list_at 0 ?_; refine q_next 0 10 (.tmp 9) 0 b10 s pos [(0, .string s), (3, v), (4, .int .i64 b), (9, .pointer (some ⟨b10, 0, none⟩))] hA H rfl (fun hp15 a w16 H hA hG => ?_) (fun hp15 a hA => ?_)
  · replace H : Fr _ _ _ [.iter b10 s (pos + (Utf8.decode s pos).2), .row 26 v l] := H
    have hwd := width_pos s pos hp15
    refine q_list 1 1 [] [(0, .string s), (3, v), (4, .int .i64 b), (9, .pointer (some ⟨b10, 0, none⟩)), (10, .tuple #[.bool true, .int .i64 (pos : Int), .int .i32 ((Utf8.decode s pos).1 : Int)]), (11, .bool true)] ((True) ∧ True) hA H ⟨trivial, trivial⟩ fun a w17 hA H hG => ?_
    refine list_end ?_
    refine hK14 _ _ ?_
    refine go_seq fun K18 hK18 => ?_
    refine go_cond hA (.tmp 11) true (fun _ => ?_) (fun h => by cases h)
    refine go_skip ?_
    refine hK18 _ _ ?_
    refine go_block 1 ?_
    refine go_seq fun K20 hK20 => ?_
    refine q_reg [] [(0, .string s), (3, v), (4, .int .i64 b), (5, .int .i64 (pos : Int)), (6, .int .i32 ((Utf8.decode s pos).1 : Int)), (9, .pointer (some ⟨b10, 0, none⟩))] ((True) ∧ (True) ∧ (True) ∧ (True) ∧ True) hA H ⟨trivial, trivial, trivial, trivial, trivial⟩ fun a w21 hA H hG => ?_
    refine hK20 _ _ ?_
    refine go_seq fun K22 hK22 => ?_
    refine q_reg [(15, .int .i64 (cls ((Utf8.decode s pos).1 : Int)))] [(0, .string s), (3, v), (4, .int .i64 b), (5, .int .i64 (pos : Int)), (7, .bool (decide (cls ((Utf8.decode s pos).1 : Int) = 4))), (9, .pointer (some ⟨b10, 0, none⟩))] ((True) ∧ (Callable Try.prog 17 ∧ CallOk Try.prog (On w21) 17 [.int .i32 ((Utf8.decode s pos).1 : Int)].toArray (.int .i64 (cls ((Utf8.decode s pos).1 : Int)))) ∧ (True) ∧ (True) ∧ True) hA H ⟨trivial, ⟨callable_of, callOk_of fun w hw => by exact class_any ((Utf8.decode s pos).1 : Int) w⟩, trivial, trivial, trivial⟩ fun a w23 hA H hG => ?_
    refine hK22 _ _ ?_
    refine go_seq fun K24 hK24 => ?_
    refine go_seq fun K25 hK25 => ?_
    refine q_reg [] [(0, .string s), (3, v), (4, .int .i64 b), (5, .int .i64 (pos : Int)), (7, .bool (decide (cls ((Utf8.decode s pos).1 : Int) = 4))), (9, .pointer (some ⟨b10, 0, none⟩)), (21, .bool ((decide (cls ((Utf8.decode s pos).1 : Int) = 4)) && (decide ((0 : Int) ≤ b))))] ((True) ∧ (True) ∧ ((decide (cls ((Utf8.decode s pos).1 : Int) = 4)) = true → True) ∧ ((decide (cls ((Utf8.decode s pos).1 : Int) = 4)) = true → True) ∧ (True) ∧ True) hA H ⟨trivial, trivial, fun _ => trivial, fun _ => trivial, trivial, trivial⟩ fun a w26 hA H hG => ?_
    refine hK25 _ _ ?_
    refine go_cond hA (.tmp 21) ((decide (cls ((Utf8.decode s pos).1 : Int) = 4)) && (decide ((0 : Int) ≤ b))) (fun hb27 => ?_) (fun hb27 => ?_)
    · have hhb27 := (⟨of_decide_eq_true ((aT hb27).1), of_decide_eq_true ((aT hb27).2)⟩ : _ ∧ _)
      refine go_seq fun K28 hK28 => ?_
      refine region_list ?_
      refine q_list 0 7 [(27, .string (s.extract (b).toNat ((pos : Int)).toNat)), (28, .agg #[.int .i64 b, .string (s.extract (b).toNat ((pos : Int)).toNat)])] [(0, .string s), (5, .int .i64 (pos : Int)), (7, .bool (decide (cls ((Utf8.decode s pos).1 : Int) = 4))), (9, .pointer (some ⟨b10, 0, none⟩)), (22, v), (28, .agg #[.int .i64 b, .string (s.extract (b).toNat ((pos : Int)).toNat)])] ((True) ∧ (True) ∧ (True) ∧ (True) ∧ (True) ∧ (∀ w, (Instr.sliceAt 9 (.string s) (some (.int .i64 b)) (some (.int .i64 (pos : Int))) none).run Try.prog w = .ok (.string (s.extract (b).toNat ((pos : Int)).toNat)) w) ∧ (∀ w, (Instr.build 26 #[(0, .int .i64 b), (1, .string (s.extract (b).toNat ((pos : Int)).toNat))]).run Try.prog w = .ok (.agg #[.int .i64 b, .string (s.extract (b).toNat ((pos : Int)).toNat)]) w) ∧ True) hA H ⟨trivial, trivial, trivial, trivial, trivial, fun w => slice_str_lh Try.underlying9 w (by omega) (by omega) (by omega), fun w => by kernel_rfl, trivial⟩ fun a w29 hA H hG => ?_
      refine list_at 7 ?_; refine q_lit 7 29 23 1 #[(0, .tmp 28)] 26 [(0, .agg #[.int .i64 b, .string (s.extract (b).toNat ((pos : Int)).toNat)])] [.int .i64 b, .string (s.extract (b).toNat ((pos : Int)).toNat)] [(0, .string s), (5, .int .i64 (pos : Int)), (7, .bool (decide (cls ((Utf8.decode s pos).1 : Int) = 4))), (9, .pointer (some ⟨b10, 0, none⟩)), (22, v)] hA H fun b30 a w31 H hA hG hge_b30 => ?_
      clear hge_b30
      refine list_at 8 ?_; refine q_push 8 30 (.tmp 22) (.tmp 29) 2 0 b30 1 1 v l [(b, s.extract (b).toNat ((pos : Int)).toNat)] [.int .i64 b, .string (s.extract (b).toNat ((pos : Int)).toNat)] [(0, .string s), (5, .int .i64 (pos : Int)), (7, .bool (decide (cls ((Utf8.decode s pos).1 : Int) = 4))), (9, .pointer (some ⟨b10, 0, none⟩))] hA H Try.E23 rfl rfl (by exact (RowRd.single (α := Int × ByteArray) ⟨[_], _, rfl, rfl, rfl⟩)) rfl (by simp only [List.length_cons, List.length_nil, List.length_append]; omega) (by decide) fun v32 a w33 H hA hG => ?_
      replace H : Fr _ _ _ [.iter b10 s (pos + (Utf8.decode s pos).2), .row 26 v32 (l ++ [(b, s.extract (b).toNat ((pos : Int)).toNat)])] := H.drop 0
      refine q_list 9 1 [] [(0, .string s), (3, v32), (5, .int .i64 (pos : Int)), (7, .bool (decide (cls ((Utf8.decode s pos).1 : Int) = 4))), (9, .pointer (some ⟨b10, 0, none⟩))] ((True) ∧ True) hA H ⟨trivial, trivial⟩ fun a w34 hA H hG => ?_
      refine list_end ?_
      refine hK28 _ _ ?_
      refine q_reg [] [(0, .string s), (3, v32), (4, .int .i64 (-1)), (5, .int .i64 (pos : Int)), (7, .bool (decide (cls ((Utf8.decode s pos).1 : Int) = 4))), (9, .pointer (some ⟨b10, 0, none⟩))] ((True) ∧ True) hA H ⟨trivial, trivial⟩ fun a w35 hA H hG => ?_
      refine hK24 _ _ ?_
      refine go_seq fun K36 hK36 => ?_
      refine q_reg [] [(0, .string s), (3, v32), (4, .int .i64 (-1)), (5, .int .i64 (pos : Int)), (9, .pointer (some ⟨b10, 0, none⟩)), (36, .bool ((!(decide (cls ((Utf8.decode s pos).1 : Int) = 4))) && (decide ((-1 : Int) < 0))))] ((True) ∧ (True) ∧ (True) ∧ ((!(decide (cls ((Utf8.decode s pos).1 : Int) = 4))) = true → True) ∧ ((!(decide (cls ((Utf8.decode s pos).1 : Int) = 4))) = true → True) ∧ (True) ∧ True) hA H ⟨trivial, trivial, trivial, fun _ => trivial, fun _ => trivial, trivial, trivial⟩ fun a w37 hA H hG => ?_
      refine hK36 _ _ ?_
      refine go_cond hA (.tmp 36) ((!(decide (cls ((Utf8.decode s pos).1 : Int) = 4))) && (decide ((-1 : Int) < 0))) (fun h => by simp [(aT hb27).1] at h) (fun _ => ?_)
      refine go_skip ?_
      refine ⟨(pos + (Utf8.decode s pos).2, v32, -1, l ++ [(b, s.extract (b).toNat ((pos : Int)).toNat)]), ⟨env_sub _ hA, ⟨_, H⟩, ?_⟩, ?_⟩
      · (try dsimp only); exact ⟨by omega, by omega, by omega, by first | omega | (rw [List.length_append]; simp only [List.length_cons, List.length_nil]; omega), by have hi2 := hi; rw [runes_cons s pos hp15] at hi2; simp only [spGo] at hi2; (repeat' split at hi2) <;> first | exact hi2 | (exfalso; omega)⟩
      · (try dsimp only); omega
    · have hhb27 := (aF hb27).imp (fun h => of_decide_eq_false h) (fun h => of_decide_eq_false h)
      refine go_skip ?_
      refine hK24 _ _ ?_
      refine go_seq fun K39 hK39 => ?_
      refine q_reg [] [(0, .string s), (3, v), (4, .int .i64 b), (5, .int .i64 (pos : Int)), (9, .pointer (some ⟨b10, 0, none⟩)), (36, .bool ((!(decide (cls ((Utf8.decode s pos).1 : Int) = 4))) && (decide (b < 0))))] ((True) ∧ (True) ∧ (True) ∧ ((!(decide (cls ((Utf8.decode s pos).1 : Int) = 4))) = true → True) ∧ ((!(decide (cls ((Utf8.decode s pos).1 : Int) = 4))) = true → True) ∧ (True) ∧ True) hA H ⟨trivial, trivial, trivial, fun _ => trivial, fun _ => trivial, trivial, trivial⟩ fun a w40 hA H hG => ?_
      refine hK39 _ _ ?_
      refine go_cond hA (.tmp 36) ((!(decide (cls ((Utf8.decode s pos).1 : Int) = 4))) && (decide (b < 0))) (fun hb41 => ?_) (fun hb41 => ?_)
      · have hhb41 := (⟨of_decide_eq_false (nT ((aT hb41).1)), of_decide_eq_true ((aT hb41).2)⟩ : _ ∧ _)
        refine q_reg [] [(0, .string s), (3, v), (4, .int .i64 (pos : Int)), (9, .pointer (some ⟨b10, 0, none⟩))] ((True) ∧ (True) ∧ True) hA H ⟨trivial, trivial, trivial⟩ fun a w42 hA H hG => ?_
        refine ⟨(pos + (Utf8.decode s pos).2, v, (pos : Int), l), ⟨env_sub _ hA, ⟨_, H⟩, ?_⟩, ?_⟩
        · (try dsimp only); exact ⟨by omega, by omega, by omega, by first | omega | (rw [List.length_append]; simp only [List.length_cons, List.length_nil]; omega), by have hi2 := hi; rw [runes_cons s pos hp15] at hi2; simp only [spGo] at hi2; (repeat' split at hi2) <;> first | exact hi2 | (exfalso; omega)⟩
        · (try dsimp only); omega
      · have hhb41 := (aF hb41).imp (fun h => of_decide_eq_true (nF h)) (fun h => of_decide_eq_false h)
        refine go_skip ?_
        refine ⟨(pos + (Utf8.decode s pos).2, v, b, l), ⟨env_sub _ hA, ⟨_, H⟩, ?_⟩, ?_⟩
        · (try dsimp only); exact ⟨by omega, by omega, by omega, by first | omega | (rw [List.length_append]; simp only [List.length_cons, List.length_nil]; omega), by have hi2 := hi; rw [runes_cons s pos hp15] at hi2; simp only [spGo] at hi2; (repeat' split at hi2) <;> first | exact hi2 | (exfalso; omega)⟩
        · (try dsimp only); omega
  · skip
    refine q_list 1 1 [] [(0, .string s), (3, v), (4, .int .i64 b), (9, .pointer (some ⟨b10, 0, none⟩)), (10, .tuple #[.bool false]), (11, .bool false)] ((True) ∧ True) hA H ⟨trivial, trivial⟩ fun a w43 hA H hG => ?_
    refine list_end ?_
    refine hK14 _ _ ?_
    refine go_seq fun K44 hK44 => ?_
    refine go_cond hA (.tmp 11) false (fun h => by cases h) (fun _ => ?_)
    refine go_exit 0 ?_
    refine hK7 _ _ ?_
    refine go_seq fun K46 hK46 => ?_
    refine go_seq fun K47 hK47 => ?_
    refine q_reg [] [(0, .string s), (3, v), (4, .int .i64 b), (39, .bool (decide ((0 : Int) ≤ b)))] ((True) ∧ (True) ∧ True) hA H ⟨trivial, trivial, trivial⟩ fun a w48 hA H hG => ?_
    refine hK47 _ _ ?_
    refine go_cond hA (.tmp 39) (decide ((0 : Int) ≤ b)) (fun hb49 => ?_) (fun hb49 => ?_)
    · have hhb49 := of_decide_eq_true hb49
      refine region_list ?_
      refine q_list 0 6 [(44, .string (s.extract (b).toNat s.size)), (45, .agg #[.int .i64 b, .string (s.extract (b).toNat s.size)])] [(40, v), (45, .agg #[.int .i64 b, .string (s.extract (b).toNat s.size)])] ((True) ∧ (True) ∧ (True) ∧ (True) ∧ (∀ w, (Instr.sliceAt 9 (.string s) (some (.int .i64 b)) none none).run Try.prog w = .ok (.string (s.extract (b).toNat s.size)) w) ∧ (∀ w, (Instr.build 26 #[(0, .int .i64 b), (1, .string (s.extract (b).toNat s.size))]).run Try.prog w = .ok (.agg #[.int .i64 b, .string (s.extract (b).toNat s.size)]) w) ∧ True) hA H ⟨trivial, trivial, trivial, trivial, fun w => slice_str_l Try.underlying9 w (by omega) (by omega), fun w => by kernel_rfl, trivial⟩ fun a w50 hA H hG => ?_
      refine list_at 6 ?_; refine q_lit 6 46 23 1 #[(0, .tmp 45)] 26 [(0, .agg #[.int .i64 b, .string (s.extract (b).toNat s.size)])] [.int .i64 b, .string (s.extract (b).toNat s.size)] [(40, v)] hA H fun b51 a w52 H hA hG hge_b51 => ?_
      clear hge_b51
      refine list_at 7 ?_; refine q_push 7 47 (.tmp 40) (.tmp 46) 2 0 b51 1 1 v l [(b, s.extract (b).toNat s.size)] [.int .i64 b, .string (s.extract (b).toNat s.size)] [] hA H Try.E23 rfl rfl (by exact (RowRd.single (α := Int × ByteArray) ⟨[_], _, rfl, rfl, rfl⟩)) rfl (by simp only [List.length_cons, List.length_nil, List.length_append]; omega) (by decide) fun v53 a w54 H hA hG => ?_
      replace H : Fr _ _ _ [.iter b10 s pos, .row 26 v53 (l ++ [(b, s.extract (b).toNat s.size)])] := H.drop 0
      refine q_list 8 1 [] [(3, v53)] ((True) ∧ True) hA H ⟨trivial, trivial⟩ fun a w55 hA H hG => ?_
      refine list_end ?_
      refine hK46 _ _ ?_
      refine go_seq fun K56 hK56 => ?_
      refine q_reg [] [(2, v53)] ((True) ∧ (True) ∧ True) hA H ⟨trivial, trivial, trivial⟩ fun a w57 hA H hG => ?_
      refine hK56 _ _ ?_
      refine go_ret_ ?_
      refine ret_one 2 v53 hA ?_
      have ho := H.give 1 rfl
      rw [runes_nil s pos hp15] at hi; simp only [spGo] at hi; simp only [hhb49, if_true, if_false] at hi; rw [hi] at ho; exact ⟨_, rfl, ho, H.below⟩
    · have hhb49 := of_decide_eq_false hb49
      refine go_skip ?_
      refine hK46 _ _ ?_
      refine go_seq fun K58 hK58 => ?_
      refine q_reg [] [(2, v)] ((True) ∧ (True) ∧ True) hA H ⟨trivial, trivial, trivial⟩ fun a w59 hA H hG => ?_
      refine hK58 _ _ ?_
      refine go_ret_ ?_
      refine ret_one 2 v hA ?_
      have ho := H.give 1 rfl
      rw [runes_nil s pos hp15] at hi; simp only [spGo] at hi; simp only [hhb49, if_true, if_false] at hi; rw [hi] at ho; exact ⟨_, rfl, ho, H.below⟩

set_option maxRecDepth 100000 in
set_option maxHeartbeats 1000000 in
theorem refRune_any (s : ByteArray) (at_ : Int) (w : World) (h0 : 0 ≤ at_) (h9 : at_ < s.size) (hs : s.size ≤ 1000000000) :
  Calls Try.prog 24 [.string s, .int .i64 at_].toArray w (Ans (.tuple #[.int .i64 (rRune s at_).1, .int .i64 (rRune s at_).2]) w) := by
  have hb0 := strAt_byte s at_
  refine enter Try.f24 92 Try.func24 fun a hA => ?_
  replace hA := env_sub [(0, .string s), (1, .int .i64 at_)] hA
  have H := Fr.start (org w)
  refine go_seq fun K1 hK1 => ?_
  refine q_reg [] [(0, .string s), (1, .int .i64 at_)] ((True) ∧ (True) ∧ True) hA H ⟨trivial, trivial, trivial⟩ fun a w2 hA H hG => ?_
  refine hK1 _ _ ?_
  refine go_seq fun K3 hK3 => ?_
  refine q_reg [] [(0, .string s), (1, .int .i64 at_), (6, .int .i64 (StrAt s at_))] ((True) ∧ (True) ∧ (0 ≤ at_ ∧ at_ < (s.size : Int)) ∧ (InR .i64 (StrAt s at_)) ∧ (True) ∧ True) hA H ⟨trivial, trivial, ⟨by omega, by omega⟩, ⟨by omega, by omega⟩, trivial, trivial⟩ fun a w4 hA H hG => ?_
  refine hK3 _ _ ?_
  refine go_seq fun K5 hK5 => ?_
  refine q_reg [] [(0, .string s), (1, .int .i64 at_), (6, .int .i64 (StrAt s at_))] ((True) ∧ (True) ∧ True) hA H ⟨trivial, trivial, trivial⟩ fun a w6 hA H hG => ?_
  refine hK5 _ _ ?_
  refine go_seq fun K7 hK7 => ?_
  have hJ8 : ∀ (a : Act) (w9 : World) (S : Stab) (n : Int) (c : Int) (l : Int), EnvOk 92 a (keepEnv [(0, .string s), (1, .int .i64 at_), (6, .int .i64 c), (7, .int .i64 n), (8, .int .i64 l)]) → Fr (org w) w9 S [] → rLead (StrAt s at_) = some (n, c, l) → K7 a w9 := by
    intro a w9 S n c l hA H hj
    obtain ⟨j1, j2, j3, j4, j5, j6, j7⟩ := rLead_some hj (strAt_byte s at_).2
    have hR : rRune s at_ = if (s.size : Int) - at_ ≤ n then (-1, 1) else rFin n l (rLoop s at_ n.toNat 1 c) := by unfold rRune; rw [if_neg (by omega), hj]
    refine hK7 _ _ ?_
    refine go_seq fun K10 hK10 => ?_
    refine go_seq fun K11 hK11 => ?_
    refine q_reg [] [(0, .string s), (1, .int .i64 at_), (6, .int .i64 c), (7, .int .i64 n), (8, .int .i64 l), (51, .bool (decide ((s.size : Int) - at_ ≤ n)))] ((True) ∧ (True) ∧ (True) ∧ (InR .i64 ((s.size : Int) - at_)) ∧ (True) ∧ (True) ∧ True) hA H ⟨trivial, trivial, trivial, ⟨by omega, by omega⟩, trivial, trivial, trivial⟩ fun a w12 hA H hG => ?_
    refine hK11 _ _ ?_
    refine go_cond hA (.tmp 51) (decide ((s.size : Int) - at_ ≤ n)) (fun hb13 => ?_) (fun hb13 => ?_)
    · have hhb13 := of_decide_eq_true hb13
      refine go_seq fun K14 hK14 => ?_
      refine q_reg [] [(4, .int .i64 (-1)), (5, .int .i64 1)] ((True) ∧ (True) ∧ True) hA H ⟨trivial, trivial, trivial⟩ fun a w15 hA H hG => ?_
      refine hK14 _ _ ?_
      refine go_ret_ ?_
      refine ret_two 4 5 (.int .i64 (-1)) (.int .i64 1) hA ?_
      exact ans_ii (by rw [hR, if_pos (by omega)]) H.below
    · have hhb13 := of_decide_eq_false hb13
      refine go_skip ?_
      refine hK10 _ _ ?_
      refine go_seq fun K16 hK16 => ?_
      refine go_seq fun K17 hK17 => ?_
      refine q_reg [] [(0, .string s), (1, .int .i64 at_), (6, .int .i64 c), (7, .int .i64 n), (8, .int .i64 l), (9, .int .i64 1)] ((True) ∧ True) hA H ⟨trivial, trivial⟩ fun a w18 hA H hG => ?_
      refine hK17 _ _ ?_
      refine go_block 1 ?_
      refine go_loop_ (Int × Int) (fun x_ a W => (fun (i : Int) (d : Int) => EnvOk 92 a (keepEnv [(0, .string s), (1, .int .i64 at_), (6, .int .i64 d), (7, .int .i64 n), (8, .int .i64 l), (9, .int .i64 i)]) ∧ (∃ S, Fr (org w) W S []) ∧ 1 ≤ i ∧ i ≤ n + 1 ∧ 0 ≤ d ∧ ((i = 1 ∧ d < 32) ∨ (i = 2 ∧ d < 2048) ∨ (i = 3 ∧ d < 131072) ∨ (i = 4 ∧ d < 8388608)) ∧ rLoop s at_ (n + 1 - i).toNat i d = rLoop s at_ n.toNat 1 c) x_.1 x_.2) (fun x_ => (fun (i : Int) (d : Int) => (n + 1 - i).toNat) x_.1 x_.2) (1, c) ?_ (fun x_ a w20 hI => ?_)
      · (try dsimp only); exact ⟨env_sub _ hA, ⟨_, H⟩, by omega, by omega, by omega, by omega, by rw [show (n + 1 - 1) = n from by omega]⟩
      obtain ⟨i, d⟩ := x_
      obtain ⟨hA, ⟨S, H⟩, h1, h2, h3, h4, hi⟩ := hI
      try dsimp only at h1 h2 h3 h4 hi
      refine go_seq fun K21 hK21 => ?_
      refine go_seq fun K22 hK22 => ?_
      refine q_reg [] [(0, .string s), (1, .int .i64 at_), (6, .int .i64 d), (7, .int .i64 n), (8, .int .i64 l), (9, .int .i64 i), (54, .bool (decide (i ≤ n)))] ((True) ∧ (True) ∧ (True) ∧ True) hA H ⟨trivial, trivial, trivial, trivial⟩ fun a w23 hA H hG => ?_
      refine hK22 _ _ ?_
      refine go_cond hA (.tmp 54) (decide (i ≤ n)) (fun hb24 => ?_) (fun hb24 => ?_)
      · have hhb24 := of_decide_eq_true hb24
        refine go_skip ?_
        refine hK21 _ _ ?_
        refine go_seq fun K25 hK25 => ?_
        refine go_block 2 ?_
        refine go_seq fun K26 hK26 => ?_
        have hb1 := strAt_byte s (at_ + i)
        refine q_reg [] [(0, .string s), (1, .int .i64 at_), (6, .int .i64 d), (7, .int .i64 n), (8, .int .i64 l), (9, .int .i64 i), (10, .int .i64 (StrAt s (at_ + i)))] ((True) ∧ (True) ∧ (True) ∧ (InR .i64 (at_ + i)) ∧ (0 ≤ at_ + i ∧ at_ + i < (s.size : Int)) ∧ (InR .i64 (StrAt s (at_ + i))) ∧ (True) ∧ True) hA H ⟨trivial, trivial, trivial, ⟨by omega, by omega⟩, ⟨by omega, by omega⟩, ⟨by omega, by omega⟩, trivial, trivial⟩ fun a w27 hA H hG => ?_
        refine hK26 _ _ ?_
        refine go_seq fun K28 hK28 => ?_
        refine go_seq fun K29 hK29 => ?_
        refine q_reg [] [(0, .string s), (1, .int .i64 at_), (6, .int .i64 d), (7, .int .i64 n), (8, .int .i64 l), (9, .int .i64 i), (10, .int .i64 (StrAt s (at_ + i))), (68, .bool ((decide (StrAt s (at_ + i) < 128)) || (decide ((191 : Int) < StrAt s (at_ + i)))))] ((True) ∧ (True) ∧ (True) ∧ ((decide (StrAt s (at_ + i) < 128)) = false → True) ∧ ((decide (StrAt s (at_ + i) < 128)) = false → True) ∧ (True) ∧ True) hA H ⟨trivial, trivial, trivial, fun _ => trivial, fun _ => trivial, trivial, trivial⟩ fun a w30 hA H hG => ?_
        refine hK29 _ _ ?_
        refine go_cond hA (.tmp 68) ((decide (StrAt s (at_ + i) < 128)) || (decide ((191 : Int) < StrAt s (at_ + i)))) (fun hb31 => ?_) (fun hb31 => ?_)
        · have hhb31 := (oT hb31).imp (fun h => of_decide_eq_true h) (fun h => of_decide_eq_true h)
          refine go_seq fun K32 hK32 => ?_
          refine q_reg [] [(4, .int .i64 (-1)), (5, .int .i64 1)] ((True) ∧ (True) ∧ True) hA H ⟨trivial, trivial, trivial⟩ fun a w33 hA H hG => ?_
          refine hK32 _ _ ?_
          refine go_ret_ ?_
          refine ret_two 4 5 (.int .i64 (-1)) (.int .i64 1) hA ?_
          exact ans_ii (by rw [hR, if_neg (by omega), ← hi, show (n + 1 - i).toNat = (n + 1 - (i + 1)).toNat + 1 from by omega]; simp only [rLoop]; rw [if_pos (by omega)]; rfl) H.below
        · have hhb31 := (⟨of_decide_eq_false ((oF hb31).1), of_decide_eq_false ((oF hb31).2)⟩ : _ ∧ _)
          refine go_skip ?_
          refine hK28 _ _ ?_
          refine q_reg [] [(0, .string s), (1, .int .i64 at_), (6, .int .i64 (((d * 64) + (StrAt s (at_ + i))) - 128)), (7, .int .i64 n), (8, .int .i64 l), (9, .int .i64 i)] ((True) ∧ (InR .i64 (d * 64)) ∧ (True) ∧ (InR .i64 ((d * 64) + (StrAt s (at_ + i)))) ∧ (InR .i64 (((d * 64) + (StrAt s (at_ + i))) - 128)) ∧ (True) ∧ True) hA H ⟨trivial, ⟨by omega, by omega⟩, trivial, ⟨by omega, by omega⟩, ⟨by omega, by omega⟩, trivial, trivial⟩ fun a w34 hA H hG => ?_
          refine hK25 _ _ ?_
          refine q_reg [] [(0, .string s), (1, .int .i64 at_), (6, .int .i64 (((d * 64) + (StrAt s (at_ + i))) - 128)), (7, .int .i64 n), (8, .int .i64 l), (9, .int .i64 (i + 1))] ((True) ∧ (InR .i64 (i + 1)) ∧ (True) ∧ True) hA H ⟨trivial, ⟨by omega, by omega⟩, trivial, trivial⟩ fun a w35 hA H hG => ?_
          refine ⟨(i + 1, ((d * 64) + (StrAt s (at_ + i))) - 128), ⟨env_sub _ hA, ⟨_, H⟩, ?_⟩, ?_⟩
          · (try dsimp only); exact ⟨by omega, by omega, by omega, by omega, by have hi2 := hi; rw [show (n + 1 - i).toNat = (n + 1 - (i + 1)).toNat + 1 from by omega] at hi2; simp only [rLoop] at hi2; rw [if_neg (by omega)] at hi2; exact hi2⟩
          · (try dsimp only); omega
      · have hhb24 := of_decide_eq_false hb24
        refine go_exit 1 ?_
        refine hK16 _ _ ?_
        refine go_seq fun K36 hK36 => ?_
        refine go_seq fun K37 hK37 => ?_
        refine q_reg [] [(6, .int .i64 d), (7, .int .i64 n), (88, .bool (((decide (d < l)) || (decide ((1114111 : Int) < d))) || ((decide ((55296 : Int) ≤ d)) && (decide (d ≤ 57343)))))] ((True) ∧ (True) ∧ (True) ∧ (True) ∧ ((decide (d < l)) = false → True) ∧ ((decide (d < l)) = false → True) ∧ (True) ∧ (True) ∧ (((decide (d < l)) || (decide ((1114111 : Int) < d))) = false → True) ∧ (((decide (d < l)) || (decide ((1114111 : Int) < d))) = false → True) ∧ (((decide (d < l)) || (decide ((1114111 : Int) < d))) = false → True) ∧ (((decide (d < l)) || (decide ((1114111 : Int) < d))) = false → (decide ((55296 : Int) ≤ d)) = true → True) ∧ (((decide (d < l)) || (decide ((1114111 : Int) < d))) = false → (decide ((55296 : Int) ≤ d)) = true → True) ∧ (((decide (d < l)) || (decide ((1114111 : Int) < d))) = false → True) ∧ (True) ∧ True) hA H ⟨trivial, trivial, trivial, trivial, fun _ => trivial, fun _ => trivial, trivial, trivial, fun _ => trivial, fun _ => trivial, fun _ => trivial, fun _ _ => trivial, fun _ _ => trivial, fun _ => trivial, trivial, trivial⟩ fun a w38 hA H hG => ?_
        refine hK37 _ _ ?_
        refine go_cond hA (.tmp 88) (((decide (d < l)) || (decide ((1114111 : Int) < d))) || ((decide ((55296 : Int) ≤ d)) && (decide (d ≤ 57343)))) (fun hb39 => ?_) (fun hb39 => ?_)
        · have hhb39 := (oT hb39).imp (fun h => (oT h).imp (fun h => of_decide_eq_true h) (fun h => of_decide_eq_true h)) (fun h => (⟨of_decide_eq_true ((aT h).1), of_decide_eq_true ((aT h).2)⟩ : _ ∧ _))
          refine go_seq fun K40 hK40 => ?_
          refine q_reg [] [(4, .int .i64 (-1)), (5, .int .i64 1)] ((True) ∧ (True) ∧ True) hA H ⟨trivial, trivial, trivial⟩ fun a w41 hA H hG => ?_
          refine hK40 _ _ ?_
          refine go_ret_ ?_
          refine ret_two 4 5 (.int .i64 (-1)) (.int .i64 1) hA ?_
          exact ans_ii (by rw [hR, if_neg (by omega), ← hi, show (n + 1 - i).toNat = 0 from by omega]; simp only [rLoop, rFin]; first | rw [if_pos (by omega)] | rw [if_neg (by omega)]) H.below
        · have hhb39 := (⟨(⟨of_decide_eq_false ((oF ((oF hb39).1)).1), of_decide_eq_false ((oF ((oF hb39).1)).2)⟩ : _ ∧ _), (aF ((oF hb39).2)).imp (fun h => of_decide_eq_false h) (fun h => of_decide_eq_false h)⟩ : _ ∧ _)
          refine go_skip ?_
          refine hK36 _ _ ?_
          refine go_seq fun K42 hK42 => ?_
          refine q_reg [] [(4, .int .i64 d), (5, .int .i64 (n + 1))] ((True) ∧ (True) ∧ (InR .i64 (n + 1)) ∧ (True) ∧ (True) ∧ True) hA H ⟨trivial, trivial, ⟨by omega, by omega⟩, trivial, trivial, trivial⟩ fun a w43 hA H hG => ?_
          refine hK42 _ _ ?_
          refine go_ret_ ?_
          refine ret_two 4 5 (.int .i64 d) (.int .i64 (n + 1)) hA ?_
          exact ans_ii (by rw [hR, if_neg (by omega), ← hi, show (n + 1 - i).toNat = 0 from by omega]; simp only [rLoop, rFin]; first | rw [if_pos (by omega)] | rw [if_neg (by omega)]) H.below
  clear hK7
  refine go_block 0 ?_
  refine go_seq fun K44 hK44 => ?_
  refine q_reg [] [(0, .string s), (1, .int .i64 at_), (6, .int .i64 (StrAt s at_)), (15, .bool (decide (StrAt s at_ < 128)))] ((True) ∧ (True) ∧ (True) ∧ True) hA H ⟨trivial, trivial, trivial, trivial⟩ fun a w45 hA H hG => ?_
  refine hK44 _ _ ?_
  refine go_cond hA (.tmp 15) (decide (StrAt s at_ < 128)) (fun hb46 => ?_) (fun hb46 => ?_)
  · have hhb46 := of_decide_eq_true hb46
    refine go_seq fun K47 hK47 => ?_
    refine q_reg [] [(4, .int .i64 (StrAt s at_)), (5, .int .i64 1)] ((True) ∧ (True) ∧ (True) ∧ True) hA H ⟨trivial, trivial, trivial, trivial⟩ fun a w48 hA H hG => ?_
    refine hK47 _ _ ?_
    refine go_ret_ ?_
    refine ret_two 4 5 (.int .i64 (StrAt s at_)) (.int .i64 1) hA ?_
    exact ans_ii (by unfold rRune; rw [if_pos (by omega)]) H.below
  · have hhb46 := of_decide_eq_false hb46
    refine go_seq fun K49 hK49 => ?_
    refine q_reg [] [(0, .string s), (1, .int .i64 at_), (6, .int .i64 (StrAt s at_)), (19, .bool ((decide ((194 : Int) ≤ StrAt s at_)) && (decide (StrAt s at_ < 224))))] ((True) ∧ (True) ∧ (True) ∧ ((decide ((194 : Int) ≤ StrAt s at_)) = true → True) ∧ ((decide ((194 : Int) ≤ StrAt s at_)) = true → True) ∧ (True) ∧ (True) ∧ True) hA H ⟨trivial, trivial, trivial, fun _ => trivial, fun _ => trivial, trivial, trivial, trivial⟩ fun a w50 hA H hG => ?_
    refine hK49 _ _ ?_
    refine go_cond hA (.tmp 19) ((decide ((194 : Int) ≤ StrAt s at_)) && (decide (StrAt s at_ < 224))) (fun hb51 => ?_) (fun hb51 => ?_)
    · have hhb51 := (⟨of_decide_eq_true ((aT hb51).1), of_decide_eq_true ((aT hb51).2)⟩ : _ ∧ _)
      refine go_seq fun K52 hK52 => ?_
      refine q_reg [] [(0, .string s), (1, .int .i64 at_), (6, .int .i64 (StrAt s at_)), (7, .int .i64 1)] ((True) ∧ True) hA H ⟨trivial, trivial⟩ fun a w53 hA H hG => ?_
      refine hK52 _ _ ?_
      refine go_seq fun K54 hK54 => ?_
      refine q_reg [] [(0, .string s), (1, .int .i64 at_), (6, .int .i64 ((StrAt s at_) - 192)), (7, .int .i64 1)] ((True) ∧ (InR .i64 ((StrAt s at_) - 192)) ∧ (True) ∧ True) hA H ⟨trivial, ⟨by omega, by omega⟩, trivial, trivial⟩ fun a w55 hA H hG => ?_
      refine hK54 _ _ ?_
      refine q_reg [] [(0, .string s), (1, .int .i64 at_), (6, .int .i64 ((StrAt s at_) - 192)), (7, .int .i64 1), (8, .int .i64 128)] ((True) ∧ True) hA H ⟨trivial, trivial⟩ fun a w56 hA H hG => ?_
      exact hJ8 _ _ _ 1 ((StrAt s at_) - 192) 128 (env_sub _ hA) H (by unfold rLead; (repeat' split) <;> first | rfl | (exfalso; omega))
    · have hhb51 := (aF hb51).imp (fun h => of_decide_eq_false h) (fun h => of_decide_eq_false h)
      refine go_seq fun K57 hK57 => ?_
      refine q_reg [] [(0, .string s), (1, .int .i64 at_), (6, .int .i64 (StrAt s at_)), (28, .bool ((decide ((224 : Int) ≤ StrAt s at_)) && (decide (StrAt s at_ < 240))))] ((True) ∧ (True) ∧ (True) ∧ ((decide ((224 : Int) ≤ StrAt s at_)) = true → True) ∧ ((decide ((224 : Int) ≤ StrAt s at_)) = true → True) ∧ (True) ∧ (True) ∧ True) hA H ⟨trivial, trivial, trivial, fun _ => trivial, fun _ => trivial, trivial, trivial, trivial⟩ fun a w58 hA H hG => ?_
      refine hK57 _ _ ?_
      refine go_cond hA (.tmp 28) ((decide ((224 : Int) ≤ StrAt s at_)) && (decide (StrAt s at_ < 240))) (fun hb59 => ?_) (fun hb59 => ?_)
      · have hhb59 := (⟨of_decide_eq_true ((aT hb59).1), of_decide_eq_true ((aT hb59).2)⟩ : _ ∧ _)
        refine go_seq fun K60 hK60 => ?_
        refine q_reg [] [(0, .string s), (1, .int .i64 at_), (6, .int .i64 (StrAt s at_)), (7, .int .i64 2)] ((True) ∧ True) hA H ⟨trivial, trivial⟩ fun a w61 hA H hG => ?_
        refine hK60 _ _ ?_
        refine go_seq fun K62 hK62 => ?_
        refine q_reg [] [(0, .string s), (1, .int .i64 at_), (6, .int .i64 ((StrAt s at_) - 224)), (7, .int .i64 2)] ((True) ∧ (InR .i64 ((StrAt s at_) - 224)) ∧ (True) ∧ True) hA H ⟨trivial, ⟨by omega, by omega⟩, trivial, trivial⟩ fun a w63 hA H hG => ?_
        refine hK62 _ _ ?_
        refine q_reg [] [(0, .string s), (1, .int .i64 at_), (6, .int .i64 ((StrAt s at_) - 224)), (7, .int .i64 2), (8, .int .i64 2048)] ((True) ∧ True) hA H ⟨trivial, trivial⟩ fun a w64 hA H hG => ?_
        exact hJ8 _ _ _ 2 ((StrAt s at_) - 224) 2048 (env_sub _ hA) H (by unfold rLead; (repeat' split) <;> first | rfl | (exfalso; omega))
      · have hhb59 := (aF hb59).imp (fun h => of_decide_eq_false h) (fun h => of_decide_eq_false h)
        refine go_seq fun K65 hK65 => ?_
        refine q_reg [] [(0, .string s), (1, .int .i64 at_), (6, .int .i64 (StrAt s at_)), (37, .bool ((decide ((240 : Int) ≤ StrAt s at_)) && (decide (StrAt s at_ < 245))))] ((True) ∧ (True) ∧ (True) ∧ ((decide ((240 : Int) ≤ StrAt s at_)) = true → True) ∧ ((decide ((240 : Int) ≤ StrAt s at_)) = true → True) ∧ (True) ∧ (True) ∧ True) hA H ⟨trivial, trivial, trivial, fun _ => trivial, fun _ => trivial, trivial, trivial, trivial⟩ fun a w66 hA H hG => ?_
        refine hK65 _ _ ?_
        refine go_cond hA (.tmp 37) ((decide ((240 : Int) ≤ StrAt s at_)) && (decide (StrAt s at_ < 245))) (fun hb67 => ?_) (fun hb67 => ?_)
        · have hhb67 := (⟨of_decide_eq_true ((aT hb67).1), of_decide_eq_true ((aT hb67).2)⟩ : _ ∧ _)
          refine go_seq fun K68 hK68 => ?_
          refine q_reg [] [(0, .string s), (1, .int .i64 at_), (6, .int .i64 (StrAt s at_)), (7, .int .i64 3)] ((True) ∧ True) hA H ⟨trivial, trivial⟩ fun a w69 hA H hG => ?_
          refine hK68 _ _ ?_
          refine go_seq fun K70 hK70 => ?_
          refine q_reg [] [(0, .string s), (1, .int .i64 at_), (6, .int .i64 ((StrAt s at_) - 240)), (7, .int .i64 3)] ((True) ∧ (InR .i64 ((StrAt s at_) - 240)) ∧ (True) ∧ True) hA H ⟨trivial, ⟨by omega, by omega⟩, trivial, trivial⟩ fun a w71 hA H hG => ?_
          refine hK70 _ _ ?_
          refine q_reg [] [(0, .string s), (1, .int .i64 at_), (6, .int .i64 ((StrAt s at_) - 240)), (7, .int .i64 3), (8, .int .i64 65536)] ((True) ∧ True) hA H ⟨trivial, trivial⟩ fun a w72 hA H hG => ?_
          exact hJ8 _ _ _ 3 ((StrAt s at_) - 240) 65536 (env_sub _ hA) H (by unfold rLead; (repeat' split) <;> first | rfl | (exfalso; omega))
        · have hhb67 := (aF hb67).imp (fun h => of_decide_eq_false h) (fun h => of_decide_eq_false h)
          refine go_seq fun K73 hK73 => ?_
          refine q_reg [] [(4, .int .i64 (-1)), (5, .int .i64 1)] ((True) ∧ (True) ∧ True) hA H ⟨trivial, trivial, trivial⟩ fun a w74 hA H hG => ?_
          refine hK73 _ _ ?_
          refine go_ret_ ?_
          refine ret_two 4 5 (.int .i64 (-1)) (.int .i64 1) hA ?_
          exact ans_ii (by unfold rRune; rw [if_neg (by omega), show rLead (StrAt s at_) = none from by unfold rLead; (repeat' split) <;> first | rfl | (exfalso; omega)]) H.below

end Go.Proofs.Ytbdgelipabndaaa
