/-
  Walks, written by program: refName.
-/
import Derived.Test.YtbdgelipabndaaaProg
import Derived.Test.YtbdgelipabndaaaWalkW3
set_option linter.unusedSimpArgs false
set_option linter.unusedVariables false
namespace Go.Proofs.Ytbdgelipabndaaa
open Go.RowKit

set_option maxRecDepth 100000 in
set_option maxHeartbeats 1000000 in
theorem refName_any (s : ByteArray) (w : World) (hs : s.size ≤ 1000000000) :
  Calls Try.prog 19 [.string s].toArray w (Ans (.bool (refNameL (classesR s))) w) := by
  have hcl := classesR_len s
  refine enter Try.f19 58 Try.func19 fun a hA => ?_
  replace hA := env_sub [(0, .string s)] hA
  have H := Fr.start (org w)
  refine go_seq fun K1 hK1 => ?_
  refine q_reg [] [(0, .string s)] ((True) ∧ True) hA H ⟨trivial, trivial⟩ fun a w2 hA H hG => ?_
  refine hK1 _ _ ?_
  refine go_seq fun K3 hK3 => ?_
  refine region_list ?_
  refine q_list 0 1 [] [(6, .string s)] ((True) ∧ True) hA H ⟨trivial, trivial⟩ fun a w4 hA H hG => ?_
  refine list_at 1 ?_; refine q_call 1 7 26 #[.tmp 6] #[9] [.string s] (fun S v w' => Rd S w' v (classesR s)) [] hA H (by exact classes_any s H.at (by omega)) fun v5 a w6 S hR7 H hA hG => ?_
  replace H := H.ro hR7
  refine q_list 2 1 [] [(3, v5)] ((True) ∧ True) hA H ⟨trivial, trivial⟩ fun a w9 hA H hG => ?_
  refine list_end ?_
  refine hK3 _ _ ?_
  refine go_seq fun K10 hK10 => ?_
  refine go_seq fun K11 hK11 => ?_
  refine q_reg [(9, .int .i64 ((classesR s).length : Int)), (13, .int .i64 ((classesR s).length : Int)), (19, .int .i64 ((classesR s).getD (0 : Int).toNat 0))] [(3, v5), (21, .bool (((decide (((classesR s).length : Int) < 1)) || (decide ((16 : Int) < ((classesR s).length : Int)))) || (!decide (((classesR s).getD (0 : Int).toNat 0) = 1))))] ((True) ∧ (LenOk v5 ((classesR s).length : Int)) ∧ (True) ∧ (True) ∧ ((decide (((classesR s).length : Int) < 1)) = false → True) ∧ ((decide (((classesR s).length : Int) < 1)) = false → LenOk v5 ((classesR s).length : Int)) ∧ ((decide (((classesR s).length : Int) < 1)) = false → True) ∧ (True) ∧ (True) ∧ (((decide (((classesR s).length : Int) < 1)) || (decide ((16 : Int) < ((classesR s).length : Int)))) = false → True) ∧ (((decide (((classesR s).length : Int) < 1)) || (decide ((16 : Int) < ((classesR s).length : Int)))) = false → (Try.prog.info? 3).isSome = true ∧ IdxOk v5 0) ∧ (((decide (((classesR s).length : Int) < 1)) || (decide ((16 : Int) < ((classesR s).length : Int)))) = false → CellOk (On w9) (hdB v5) (hdO v5 + (0 : Int).toNat * 1) (.int .i64 ((classesR s).getD (0 : Int).toNat 0))) ∧ (((decide (((classesR s).length : Int) < 1)) || (decide ((16 : Int) < ((classesR s).length : Int)))) = false → True) ∧ (True) ∧ True) hA H ⟨trivial, by exact len_ok (H.get 0 rfl), trivial, trivial, fun _ => trivial, fun _ => by exact len_ok (H.get 0 rfl), fun _ => trivial, trivial, trivial, fun _ => trivial, fun hg0 => by replace hg0 := (⟨of_decide_eq_false ((oF hg0).1), of_decide_eq_false ((oF hg0).2)⟩ : _ ∧ _); exact ⟨by kernel_rfl, by exact idx_ok (H.get 0 rfl) (by omega) (by omega)⟩, fun hg0 => by replace hg0 := (⟨of_decide_eq_false ((oF hg0).1), of_decide_eq_false ((oF hg0).2)⟩ : _ ∧ _); exact by exact cell_flat (i := (0 : Int)) (H.get 0 rfl) (by omega) (by omega) 0 0, fun _ => trivial, trivial, trivial⟩ fun a w12 hA H hG => ?_
  refine hK11 _ _ ?_
  refine go_cond hA (.tmp 21) (((decide (((classesR s).length : Int) < 1)) || (decide ((16 : Int) < ((classesR s).length : Int)))) || (!decide (((classesR s).getD (0 : Int).toNat 0) = 1))) (fun hb13 => ?_) (fun hb13 => ?_)
  · have hhb13 := (oT hb13).imp (fun h => (oT h).imp (fun h => of_decide_eq_true h) (fun h => of_decide_eq_true h)) (fun h => of_decide_eq_false (nT h))
    refine go_seq fun K14 hK14 => ?_
    refine q_reg [] [(2, .bool false)] ((True) ∧ True) hA H ⟨trivial, trivial⟩ fun a w15 hA H hG => ?_
    refine hK14 _ _ ?_
    refine go_ret_ ?_
    refine ret_one 2 (.bool false) hA ?_
    exact ans_b (refName_a hhb13) H.below
  · have hhb13 := (⟨(⟨of_decide_eq_false ((oF ((oF hb13).1)).1), of_decide_eq_false ((oF ((oF hb13).1)).2)⟩ : _ ∧ _), of_decide_eq_true (nF ((oF hb13).2))⟩ : _ ∧ _)
    refine go_skip ?_
    refine hK10 _ _ ?_
    refine go_seq fun K16 hK16 => ?_
    refine q_reg [(23, .int .i64 ((classesR s).length : Int))] [(3, v5), (4, .int .i64 ((classesR s).length : Int))] ((True) ∧ (LenOk v5 ((classesR s).length : Int)) ∧ (True) ∧ True) hA H ⟨trivial, by exact len_ok (H.get 0 rfl), trivial, trivial⟩ fun a w17 hA H hG => ?_
    refine hK16 _ _ ?_
    refine go_seq fun K18 hK18 => ?_
    refine go_block 0 ?_
    refine go_loop_ (Int) (fun x_ a W => (fun (n : Int) => EnvOk 58 a (keepEnv [(3, v5), (4, .int .i64 n)]) ∧ (∃ S, Fr (org w) W S [.ro v5 (classesR s)]) ∧ 0 ≤ n ∧ n ≤ ((classesR s).length : Int) ∧ stripN (classesR s) n.toNat = stripN (classesR s) (classesR s).length) x_) (fun x_ => (fun (n : Int) => n.toNat) x_) (((classesR s).length : Int)) ?_ (fun n a w20 hI => ?_)
    · (try dsimp only); exact ⟨env_sub _ hA, ⟨_, H⟩, by omega, by omega, by rw [Int.toNat_natCast]⟩
    obtain ⟨hA, ⟨S, H⟩, h1, h2, hi⟩ := hI
    try dsimp only at h1 h2 hi
    refine go_seq fun K21 hK21 => ?_
    refine go_seq fun K22 hK22 => ?_
    refine q_reg [(31, .int .i64 ((classesR s).getD (n - 1).toNat 0))] [(3, v5), (4, .int .i64 n), (33, .bool ((decide ((0 : Int) < n)) && (decide (((classesR s).getD (n - 1).toNat 0) = 3))))] ((True) ∧ (True) ∧ (True) ∧ ((decide ((0 : Int) < n)) = true → True) ∧ ((decide ((0 : Int) < n)) = true → True) ∧ ((decide ((0 : Int) < n)) = true → InR .i64 (n - 1)) ∧ ((decide ((0 : Int) < n)) = true → (Try.prog.info? 3).isSome = true ∧ IdxOk v5 (n - 1)) ∧ ((decide ((0 : Int) < n)) = true → CellOk (On w20) (hdB v5) (hdO v5 + (n - 1).toNat * 1) (.int .i64 ((classesR s).getD (n - 1).toNat 0))) ∧ ((decide ((0 : Int) < n)) = true → True) ∧ (True) ∧ True) hA H ⟨trivial, trivial, trivial, fun _ => trivial, fun _ => trivial, fun hg0 => by replace hg0 := of_decide_eq_true hg0; exact ⟨by omega, by omega⟩, fun hg0 => by replace hg0 := of_decide_eq_true hg0; exact ⟨by kernel_rfl, by exact idx_ok (H.get 0 rfl) (by omega) (by omega)⟩, fun hg0 => by replace hg0 := of_decide_eq_true hg0; exact by exact cell_flat (i := n - 1) (H.get 0 rfl) (by omega) (by omega) 0 0, fun _ => trivial, trivial, trivial⟩ fun a w23 hA H hG => ?_
    refine hK22 _ _ ?_
    refine go_cond hA (.tmp 33) ((decide ((0 : Int) < n)) && (decide (((classesR s).getD (n - 1).toNat 0) = 3))) (fun hb24 => ?_) (fun hb24 => ?_)
    · have hhb24 := (⟨of_decide_eq_true ((aT hb24).1), of_decide_eq_true ((aT hb24).2)⟩ : _ ∧ _)
      refine go_skip ?_
      refine hK21 _ _ ?_
      refine go_block 1 ?_
      refine q_reg [] [(3, v5), (4, .int .i64 (n - 1))] ((True) ∧ (InR .i64 (n - 1)) ∧ (True) ∧ True) hA H ⟨trivial, ⟨by omega, by omega⟩, trivial, trivial⟩ fun a w25 hA H hG => ?_
      refine ⟨(n - 1), ⟨env_sub _ hA, ⟨_, H⟩, ?_⟩, ?_⟩
      · (try dsimp only); exact ⟨by omega, by omega, by rw [strip_step (n := n) hhb24.1 hhb24.2] at hi; exact hi⟩
      · (try dsimp only); have := hhb24; omega
    · have hhb24 := (aF hb24).imp (fun h => of_decide_eq_false h) (fun h => of_decide_eq_false h)
      refine go_exit 0 ?_
      refine hK18 _ _ ?_
      refine go_seq fun K26 hK26 => ?_
      refine go_seq fun K27 hK27 => ?_
      have hR := refName_b hhb13 h1 hi (strip_stop hhb24)
      refine q_reg [(37, .int .i64 ((classesR s).length : Int))] [(3, v5), (4, .int .i64 n), (40, .bool (decide ((3 : Int) < ((classesR s).length : Int) - n)))] ((True) ∧ (LenOk v5 ((classesR s).length : Int)) ∧ (True) ∧ (InR .i64 (((classesR s).length : Int) - n)) ∧ (True) ∧ True) hA H ⟨trivial, by exact len_ok (H.get 0 rfl), trivial, ⟨by omega, by omega⟩, trivial, trivial⟩ fun a w28 hA H hG => ?_
      refine hK27 _ _ ?_
      refine go_cond hA (.tmp 40) (decide ((3 : Int) < ((classesR s).length : Int) - n)) (fun hb29 => ?_) (fun hb29 => ?_)
      · have hhb29 := of_decide_eq_true hb29
        refine go_seq fun K30 hK30 => ?_
        refine q_reg [] [(2, .bool false)] ((True) ∧ True) hA H ⟨trivial, trivial⟩ fun a w31 hA H hG => ?_
        refine hK30 _ _ ?_
        refine go_ret_ ?_
        refine ret_one 2 (.bool false) hA ?_
        exact ans_b (by rw [hR, if_pos (by omega)]) H.below
      · have hhb29 := of_decide_eq_false hb29
        refine go_skip ?_
        refine hK26 _ _ ?_
        refine go_seq fun K32 hK32 => ?_
        refine go_seq fun K33 hK33 => ?_
        refine q_reg [] [(3, v5), (4, .int .i64 n), (5, .int .i64 0)] ((True) ∧ True) hA H ⟨trivial, trivial⟩ fun a w34 hA H hG => ?_
        refine hK33 _ _ ?_
        refine go_block 2 ?_
        refine go_loop_ (Nat) (fun x_ a W => (fun (i : Nat) => EnvOk 58 a (keepEnv [(3, v5), (4, .int .i64 n), (5, .int .i64 (i : Int))]) ∧ (∃ S, Fr (org w) W S [.ro v5 (classesR s)]) ∧ (i : Int) ≤ n ∧ okN (classesR s) i) x_) (fun x_ => (fun (i : Nat) => n.toNat - i) x_) (0) ?_ (fun i a w36 hI => ?_)
        · (try dsimp only); exact ⟨env_sub _ hA, ⟨_, H⟩, by omega, fun j hj => by omega⟩
        obtain ⟨hA, ⟨S, H⟩, h3, hok⟩ := hI
        try dsimp only at h3 hok
        refine go_seq fun K37 hK37 => ?_
        refine go_seq fun K38 hK38 => ?_
        refine q_reg [] [(3, v5), (4, .int .i64 n), (5, .int .i64 (i : Int)), (43, .bool (decide ((i : Int) < n)))] ((True) ∧ (True) ∧ (True) ∧ True) hA H ⟨trivial, trivial, trivial, trivial⟩ fun a w39 hA H hG => ?_
        refine hK38 _ _ ?_
        refine go_cond hA (.tmp 43) (decide ((i : Int) < n)) (fun hb40 => ?_) (fun hb40 => ?_)
        · have hhb40 := of_decide_eq_true hb40
          refine go_skip ?_
          refine hK37 _ _ ?_
          refine go_seq fun K41 hK41 => ?_
          refine go_block 3 ?_
          refine go_seq fun K42 hK42 => ?_
          refine q_reg [(49, .int .i64 ((classesR s).getD (i : Int).toNat 0)), (55, .int .i64 ((classesR s).getD (i : Int).toNat 0))] [(3, v5), (4, .int .i64 n), (5, .int .i64 (i : Int)), (57, .bool ((!decide (((classesR s).getD (i : Int).toNat 0) = 1)) && (!decide (((classesR s).getD (i : Int).toNat 0) = 2))))] ((True) ∧ (True) ∧ ((Try.prog.info? 3).isSome = true ∧ IdxOk v5 (i : Int)) ∧ (CellOk (On w39) (hdB v5) (hdO v5 + (i : Int).toNat * 1) (.int .i64 ((classesR s).getD (i : Int).toNat 0))) ∧ (True) ∧ (True) ∧ ((!decide (((classesR s).getD (i : Int).toNat 0) = 1)) = true → True) ∧ ((!decide (((classesR s).getD (i : Int).toNat 0) = 1)) = true → True) ∧ ((!decide (((classesR s).getD (i : Int).toNat 0) = 1)) = true → (Try.prog.info? 3).isSome = true ∧ IdxOk v5 (i : Int)) ∧ ((!decide (((classesR s).getD (i : Int).toNat 0) = 1)) = true → CellOk (On w39) (hdB v5) (hdO v5 + (i : Int).toNat * 1) (.int .i64 ((classesR s).getD (i : Int).toNat 0))) ∧ ((!decide (((classesR s).getD (i : Int).toNat 0) = 1)) = true → True) ∧ (True) ∧ True) hA H ⟨trivial, trivial, ⟨by kernel_rfl, by exact idx_ok (H.get 0 rfl) (by omega) (by omega)⟩, by exact cell_flat (i := (i : Int)) (H.get 0 rfl) (by omega) (by omega) 0 0, trivial, trivial, fun _ => trivial, fun _ => trivial, fun hg0 => by replace hg0 := of_decide_eq_false (nT hg0); exact ⟨by kernel_rfl, by exact idx_ok (H.get 0 rfl) (by omega) (by omega)⟩, fun hg0 => by replace hg0 := of_decide_eq_false (nT hg0); exact by exact cell_flat (i := (i : Int)) (H.get 0 rfl) (by omega) (by omega) 0 0, fun _ => trivial, trivial, trivial⟩ fun a w43 hA H hG => ?_
          refine hK42 _ _ ?_
          refine go_cond hA (.tmp 57) ((!decide (((classesR s).getD (i : Int).toNat 0) = 1)) && (!decide (((classesR s).getD (i : Int).toNat 0) = 2))) (fun hb44 => ?_) (fun hb44 => ?_)
          · have hhb44 := (⟨of_decide_eq_false (nT ((aT hb44).1)), of_decide_eq_false (nT ((aT hb44).2))⟩ : _ ∧ _)
            refine go_seq fun K45 hK45 => ?_
            refine q_reg [] [(2, .bool false)] ((True) ∧ True) hA H ⟨trivial, trivial⟩ fun a w46 hA H hG => ?_
            refine hK45 _ _ ?_
            refine go_ret_ ?_
            refine ret_one 2 (.bool false) hA ?_
            exact ans_b (by rw [hR, if_neg (by omega)]; refine (decide_eq_false ?_).symm; intro hh; have := hh i (by omega); have q := hhb44; rw [Int.toNat_natCast] at q; omega) H.below
          · have hhb44 := (aF hb44).imp (fun h => of_decide_eq_true (nF h)) (fun h => of_decide_eq_true (nF h))
            refine go_skip ?_
            refine hK41 _ _ ?_
            refine q_reg [] [(3, v5), (4, .int .i64 n), (5, .int .i64 ((i : Int) + 1))] ((True) ∧ (InR .i64 ((i : Int) + 1)) ∧ (True) ∧ True) hA H ⟨trivial, ⟨by omega, by omega⟩, trivial, trivial⟩ fun a w47 hA H hG => ?_
            refine ⟨(i + 1), ⟨env_sub _ hA, ⟨_, H⟩, ?_⟩, ?_⟩
            · (try dsimp only); exact ⟨by omega, fun j hj => if e : j = i then (by subst e; have := hhb44; rw [Int.toNat_natCast] at this; omega) else hok j (by omega)⟩
            · (try dsimp only); omega
        · have hhb40 := of_decide_eq_false hb40
          refine go_exit 2 ?_
          refine hK32 _ _ ?_
          refine go_seq fun K48 hK48 => ?_
          refine q_reg [] [(2, .bool true)] ((True) ∧ True) hA H ⟨trivial, trivial⟩ fun a w49 hA H hG => ?_
          refine hK48 _ _ ?_
          refine go_ret_ ?_
          refine ret_one 2 (.bool true) hA ?_
          exact ans_b (by rw [hR, if_neg (by omega)]; refine (decide_eq_true ?_).symm; have e : i = n.toNat := (by omega); rw [← e]; exact hok) H.below

end Go.Proofs.Ytbdgelipabndaaa
