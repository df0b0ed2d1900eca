/-
  Walks, written by program: Lines1.
-/
import Derived.Test.YtbdgelipabndaaaProg
import Derived.Test.YtbdgelipabndaaaWordL
import Derived.Test.YtbdgelipabndaaaEngR
set_option linter.unusedSimpArgs false
set_option linter.unusedVariables false
namespace Go.Proofs.Ytbdgelipabndaaa
open Go.RowKit

set_option maxRecDepth 100000 in
set_option maxHeartbeats 1000000 in
theorem lines1_any (l b : Nat) (s : ByteArray) (J Jx : List (Int × ByteArray) → World → Prop) (w : World) (hs : s.size ≤ 1000000000) (hb : w.heap[b]? = some (.cells #[.string s] 9 (0, 0))) (hJ : AbidesFrom w.heap.size J) (hJx : AbidesFrom w.heap.size Jx) (hY : ∀ (pre : List (Int × ByteArray)) (x : Int × ByteArray) (W1 : World), J pre W1 → pre.length < s.size + 1 → YieldAt Fence.wide 0 Try.prog l #[.int .i64 x.1, .string x.2] W1 fun e W' => (e = .returned (.bool true) ∧ J (pre ++ [x]) W' ∧ KpB b W1 W') ∨ (e = .returned (.bool false) ∧ Jx (pre ++ [x]) W')) (h0 : J [] w) :
  Calls Try.prog 27 [.func (.yield l) #[] #[], .pointer (some ⟨b, 0, none⟩)].toArray w (fun e W' => (∃ v, e = .returned v) ∧ ((∃ xs, xs = linesS s ∧ J xs W') ∨ (∃ pre, preS s pre ∧ Jx pre W'))) := by
  refine enter Try.f27 34 Try.func27 fun a hA => ?_
  replace hA := env_sub [(0, .func (.yield l) #[] #[]), (1, .pointer (some ⟨b, 0, none⟩))] hA
  have H := fr_box hb; have hj : Has J w.heap.size [] w := ⟨h0, Nat.le_refl _⟩
  refine go_seq fun K1 hK1 => ?_
  refine q_reg [] [(0, .func (.yield l) #[] #[]), (1, .pointer (some ⟨b, 0, none⟩)), (3, .int .i64 0)] ((True) ∧ True) hA H ⟨trivial, trivial⟩ fun a w2 hA H hG => ?_
  replace hj := hj.on hJ hG
  refine hK1 _ _ ?_
  refine go_seq fun K3 hK3 => ?_
  refine go_seq fun K4 hK4 => ?_
  refine region_list ?_
  refine q_list 0 1 [(6, .string s)] [(0, .func (.yield l) #[] #[]), (1, .pointer (some ⟨b, 0, none⟩)), (3, .int .i64 0), (6, .string s)] ((CellOk (On w2) b (0) (.string s)) ∧ True) hA H ⟨by exact box_cell H 0 rfl 0, trivial⟩ fun a w5 hA H hG => ?_
  replace hj := hj.on hJ hG
  refine list_at 1 ?_; refine q_range 1 7 9 (.tmp 6) s [(0, .func (.yield l) #[] #[]), (1, .pointer (some ⟨b, 0, none⟩)), (3, .int .i64 0)] hA H Try.underlying9 fun b6 a w7 H hA hG hge_b6 => ?_
  replace hge_b6 := Nat.le_trans hj.2 hge_b6
  replace hj := hj.on hJ hG
  refine list_end ?_
  refine hK4 _ _ ?_
  refine go_block 0 ?_
  refine go_loop_ (Nat × Int × List (Int × ByteArray)) (fun x_ a W => (fun (pos : Nat) (start : Int) (pre : List (Int × ByteArray)) => EnvOk 34 a (keepEnv [(0, .func (.yield l) #[] #[]), (1, .pointer (some ⟨b, 0, none⟩)), (3, .int .i64 start), (7, .pointer (some ⟨b6, 0, none⟩))]) ∧ (∃ S, Fr (orgE w) W S [.iter b6 s pos, .box b 9 [.string s]]) ∧ pos ≤ s.size ∧ 0 ≤ start ∧ start ≤ (pos : Int) ∧ (pre.length : Int) ≤ start ∧ pre ++ (lGo s (s.size - pos) pos start).map (lineOf s) = linesS s ∧ Has J w.heap.size pre W) x_.1 x_.2.1 x_.2.2) (fun x_ => (fun (pos : Nat) (start : Int) (pre : List (Int × ByteArray)) => s.size - pos) x_.1 x_.2.1 x_.2.2) (0, 0, []) ?_ (fun x_ a w9 hI => ?_)
  · (try dsimp only); exact ⟨env_sub _ hA, ⟨_, H⟩, by omega, by omega, by omega, by simp, rfl, hj⟩
  obtain ⟨pos, start, pre⟩ := x_
  obtain ⟨hA, ⟨S, H⟩, h1, h2, h3, h4, hi, hj⟩ := hI
  try dsimp only at h1 h2 h3 h4 hi hj
  refine go_seq fun K10 hK10 => ?_
  refine region_list ?_
  have hit := H.iter_at 0 rfl
  refine list_at 0 ?_; refine q_next 0 8 (.tmp 7) 0 b6 s pos [(0, .func (.yield l) #[] #[]), (1, .pointer (some ⟨b, 0, none⟩)), (3, .int .i64 start), (7, .pointer (some ⟨b6, 0, none⟩))] hA H rfl (fun hp11 a w12 H hA hG => ?_) (fun hp11 a hA => ?_)
  · replace H : Fr _ _ _ [.iter b6 s (pos + (Utf8.decode s pos).2), .box b 9 [.string s]] := H
    have hwd := width_pos s pos hp11
    replace hj := hj.next hJ hge_b6 hit hG
    refine q_list 1 1 [] [(0, .func (.yield l) #[] #[]), (1, .pointer (some ⟨b, 0, none⟩)), (3, .int .i64 start), (7, .pointer (some ⟨b6, 0, none⟩)), (8, .tuple #[.bool true, .int .i64 (pos : Int), .int .i32 ((Utf8.decode s pos).1 : Int)]), (9, .bool true)] ((True) ∧ True) hA H ⟨trivial, trivial⟩ fun a w13 hA H hG => ?_
    replace hj := hj.on hJ hG
    refine list_end ?_
    refine hK10 _ _ ?_
    refine go_seq fun K14 hK14 => ?_
    refine go_cond hA (.tmp 9) true (fun _ => ?_) (fun h => by cases h)
    refine go_skip ?_
    refine hK14 _ _ ?_
    refine go_block 1 ?_
    refine go_seq fun K16 hK16 => ?_
    refine q_reg [] [(0, .func (.yield l) #[] #[]), (1, .pointer (some ⟨b, 0, none⟩)), (3, .int .i64 start), (4, .int .i64 (pos : Int)), (5, .int .i32 ((Utf8.decode s pos).1 : Int)), (7, .pointer (some ⟨b6, 0, none⟩))] ((True) ∧ (True) ∧ (True) ∧ (True) ∧ True) hA H ⟨trivial, trivial, trivial, trivial, trivial⟩ fun a w17 hA H hG => ?_
    replace hj := hj.on hJ hG
    refine hK16 _ _ ?_
    refine go_seq fun K18 hK18 => ?_
    refine go_seq fun K19 hK19 => ?_
    refine q_reg [] [(0, .func (.yield l) #[] #[]), (1, .pointer (some ⟨b, 0, none⟩)), (3, .int .i64 start), (4, .int .i64 (pos : Int)), (7, .pointer (some ⟨b6, 0, none⟩)), (13, .bool (!decide (((Utf8.decode s pos).1 : Int) = 10)))] ((True) ∧ (True) ∧ True) hA H ⟨trivial, trivial, trivial⟩ fun a w20 hA H hG => ?_
    replace hj := hj.on hJ hG
    refine hK19 _ _ ?_
    refine go_cond hA (.tmp 13) (!decide (((Utf8.decode s pos).1 : Int) = 10)) (fun hb21 => ?_) (fun hb21 => ?_)
    · have hhb21 := of_decide_eq_false (nT hb21)
      refine go_exit 1 ?_
      refine ⟨(pos + (Utf8.decode s pos).2, start, pre), ⟨env_sub _ hA, ⟨_, H⟩, ?_⟩, ?_⟩
      · (try dsimp only); exact ⟨by have := (lGo_rune (from_ := start) hp11 hhb21).2; omega, by omega, by omega, by omega, by rw [(lGo_rune hp11 hhb21).1] at hi; exact hi, hj⟩
      · (try dsimp only); omega
    · have hhb21 := of_decide_eq_true (nF hb21)
      refine go_skip ?_
      refine hK18 _ _ ?_
      refine go_seq fun K22 hK22 => ?_
      refine go_seq fun K23 hK23 => ?_
      have hnl := hhb21
      refine region_in 1 ?_
      refine q_listI 0 6 [(16, .string s), (19, .string (s.extract (start).toNat ((pos : Int)).toNat))] [(0, .func (.yield l) #[] #[]), (1, .pointer (some ⟨b, 0, none⟩)), (4, .int .i64 (pos : Int)), (7, .pointer (some ⟨b6, 0, none⟩)), (14, .func (.yield l) #[] #[]), (15, .int .i64 start), (19, .string (s.extract (start).toNat ((pos : Int)).toNat))] ((True) ∧ (True) ∧ (CellOk (On w20) b (0) (.string s)) ∧ (True) ∧ (True) ∧ (∀ w, (Instr.sliceAt 9 (.string s) (some (.int .i64 start)) (some (.int .i64 (pos : Int))) none).run Try.prog w = .ok (.string (s.extract (start).toNat ((pos : Int)).toNat)) w) ∧ True) hA H ⟨trivial, trivial, by exact box_cell H 1 rfl 0, trivial, trivial, fun w => slice_str_lh Try.underlying9 w (by omega) (by omega) (by omega), trivial⟩ (fun ⟨_, _, h⟩ => by obtain ⟨⟨v, hv⟩, _⟩ := h; cases hv) fun a w24 hA H hG => ?_
      replace hj := hj.on hJ hG
      refine q_yield 6 20 l (.tmp 14) #[.tmp 15, .tmp 19] #[3, 9] [.int .i64 start, .string (s.extract (start).toNat ((pos : Int)).toNat)] [(0, .func (.yield l) #[] #[]), (1, .pointer (some ⟨b, 0, none⟩)), (4, .int .i64 (pos : Int)), (7, .pointer (some ⟨b6, 0, none⟩))] hA (hY pre (start, s.extract (start).toNat ((pos : Int)).toNat) _ hj.1 (by omega)) fun e w25 hR26 => ?_
      rcases hR26 with ⟨rfl, hjn, hkp⟩ | ⟨rfl, hjx⟩
      · refine ⟨_, rfl, fun a hA => ?_⟩
        replace H := fr_kept rfl H hkp
        replace hj := Has.kp hjn hj.2 hkp
        refine q_listI 7 1 [] [(0, .func (.yield l) #[] #[]), (1, .pointer (some ⟨b, 0, none⟩)), (4, .int .i64 (pos : Int)), (7, .pointer (some ⟨b6, 0, none⟩)), (21, .bool false)] ((True) ∧ True) hA H ⟨trivial, trivial⟩ (fun ⟨_, _, h⟩ => by obtain ⟨⟨v, hv⟩, _⟩ := h; cases hv) fun a w27 hA H hG => ?_
        replace hj := hj.on hJ hG
        refine listI_end ?_
        refine hK23 _ _ ?_
        refine go_cond hA (.tmp 21) false (fun h => by cases h) (fun _ => ?_)
        refine go_skip ?_
        refine hK22 _ _ ?_
        refine q_reg [] [(0, .func (.yield l) #[] #[]), (1, .pointer (some ⟨b, 0, none⟩)), (3, .int .i64 ((pos : Int) + 1)), (7, .pointer (some ⟨b6, 0, none⟩))] ((True) ∧ (InR .i64 ((pos : Int) + 1)) ∧ (True) ∧ True) hA H ⟨trivial, ⟨by omega, by omega⟩, trivial, trivial⟩ fun a w29 hA H hG => ?_
        replace hj := hj.on hJ hG
        refine ⟨(pos + (Utf8.decode s pos).2, (pos : Int) + 1, pre ++ [(start, s.extract (start).toNat ((pos : Int)).toNat)]), ⟨env_sub _ hA, ⟨_, H⟩, ?_⟩, ?_⟩
        · (try dsimp only); exact ⟨by have := (lGo_nl (from_ := start) hp11 hnl).2; omega, by omega, by have := (lGo_nl (from_ := start) hp11 hnl).2; omega, by rw [List.length_append, List.length_cons, List.length_nil]; omega, by rw [(lGo_nl hp11 hnl).1, List.map_cons, List.append_cons] at hi; exact hi, hj⟩
        · (try dsimp only); omega
      · refine ⟨_, rfl, fun a hA => ?_⟩
        clear H; have H := Fr.start (org w25)
        refine q_listI 7 1 [] [(0, .func (.yield l) #[] #[]), (1, .pointer (some ⟨b, 0, none⟩)), (4, .int .i64 (pos : Int)), (7, .pointer (some ⟨b6, 0, none⟩)), (21, .bool true)] ((True) ∧ True) hA H ⟨trivial, trivial⟩ (fun ⟨_, _, h⟩ => by obtain ⟨⟨v, hv⟩, _⟩ := h; cases hv) fun a w30 hA H hG => ?_
        replace hjx := jon hJx hjx hG
        refine listI_end ?_
        refine hK23 _ _ ?_
        refine go_cond hA (.tmp 21) true (fun _ => ?_) (fun h => by cases h)
        refine go_ret_ ?_
        refine ret_none (P := Try.prog) (fn := Try.f27) (R := (fun e W' => (∃ v, e = .returned v) ∧ ((∃ xs, xs = linesS s ∧ J xs W') ∨ (∃ pre, preS s pre ∧ Jx pre W')))) hA ?_
        exact ⟨⟨_, rfl⟩, .inr ⟨_, ⟨_, by rw [(lGo_nl hp11 hnl).1, List.map_cons, List.append_cons] at hi; exact hi⟩, hjx⟩⟩
  · skip
    refine q_list 1 1 [] [(0, .func (.yield l) #[] #[]), (1, .pointer (some ⟨b, 0, none⟩)), (3, .int .i64 start), (7, .pointer (some ⟨b6, 0, none⟩)), (8, .tuple #[.bool false]), (9, .bool false)] ((True) ∧ True) hA H ⟨trivial, trivial⟩ fun a w32 hA H hG => ?_
    replace hj := hj.on hJ hG
    refine list_end ?_
    refine hK10 _ _ ?_
    refine go_seq fun K33 hK33 => ?_
    refine go_cond hA (.tmp 9) false (fun h => by cases h) (fun _ => ?_)
    refine go_exit 0 ?_
    refine hK3 _ _ ?_
    refine go_seq fun K35 hK35 => ?_
    have hend : pos = s.size := by omega
    refine q_reg [(25, .string s)] [(0, .func (.yield l) #[] #[]), (1, .pointer (some ⟨b, 0, none⟩)), (3, .int .i64 start), (27, .bool (decide (start < (s.size : Int))))] ((True) ∧ (CellOk (On w32) b (0) (.string s)) ∧ (True) ∧ (True) ∧ True) hA H ⟨trivial, by exact box_cell H 1 rfl 0, trivial, trivial, trivial⟩ fun a w36 hA H hG => ?_
    replace hj := hj.on hJ hG
    refine hK35 _ _ ?_
    refine go_cond hA (.tmp 27) (decide (start < (s.size : Int))) (fun hb37 => ?_) (fun hb37 => ?_)
    · have hhb37 := of_decide_eq_true hb37
      have hfin : pre ++ [(start, s.extract (start).toNat s.size)] = linesS s := by rw [show s.size - pos = 0 by omega] at hi; simp only [lGo] at hi; rw [if_pos (by omega)] at hi; exact hi
      refine region_in 1 ?_
      refine q_listI 0 5 [(30, .string s), (32, .string (s.extract (start).toNat s.size))] [(28, .func (.yield l) #[] #[]), (29, .int .i64 start), (32, .string (s.extract (start).toNat s.size))] ((True) ∧ (True) ∧ (CellOk (On w36) b (0) (.string s)) ∧ (True) ∧ (∀ w, (Instr.sliceAt 9 (.string s) (some (.int .i64 start)) none none).run Try.prog w = .ok (.string (s.extract (start).toNat s.size)) w) ∧ True) hA H ⟨trivial, trivial, by exact box_cell H 1 rfl 0, trivial, fun w => slice_str_l Try.underlying9 w (by omega) (by omega), trivial⟩ (fun ⟨_, _, h⟩ => by obtain ⟨⟨v, hv⟩, _⟩ := h; cases hv) fun a w38 hA H hG => ?_
      replace hj := hj.on hJ hG
      refine q_yield 5 33 l (.tmp 28) #[.tmp 29, .tmp 32] #[3, 9] [.int .i64 start, .string (s.extract (start).toNat s.size)] [] hA (hY pre (start, s.extract (start).toNat s.size) _ hj.1 (by omega)) fun e w39 hR40 => ?_
      rcases hR40 with ⟨rfl, hjn, hkp⟩ | ⟨rfl, hjx⟩
      · refine ⟨_, rfl, fun a hA => ?_⟩
        replace H := fr_kept rfl H hkp
        replace hj := Has.kp hjn hj.2 hkp
        refine listI_end ?_
        refine ret_noneN (P := Try.prog) (fn := Try.f27) (R := (fun e W' => (∃ v, e = .returned v) ∧ ((∃ xs, xs = linesS s ∧ J xs W') ∨ (∃ pre, preS s pre ∧ Jx pre W')))) hA ?_
        exact ⟨⟨_, rfl⟩, .inl ⟨_, hfin, hj.1⟩⟩
      · refine ⟨_, rfl, fun a hA => ?_⟩
        clear H; have H := Fr.start (org w39)
        refine listI_end ?_
        refine ret_noneN (P := Try.prog) (fn := Try.f27) (R := (fun e W' => (∃ v, e = .returned v) ∧ ((∃ xs, xs = linesS s ∧ J xs W') ∨ (∃ pre, preS s pre ∧ Jx pre W')))) hA ?_
        exact ⟨⟨_, rfl⟩, .inr ⟨_, ⟨[], by rw [List.append_nil]; exact hfin⟩, hjx⟩⟩
    · have hhb37 := of_decide_eq_false hb37
      refine go_skip ?_
      refine ret_noneN (P := Try.prog) (fn := Try.f27) (R := (fun e W' => (∃ v, e = .returned v) ∧ ((∃ xs, xs = linesS s ∧ J xs W') ∨ (∃ pre, preS s pre ∧ Jx pre W')))) hA ?_
      have hfin0 : pre = linesS s := by rw [show s.size - pos = 0 by omega] at hi; simp only [lGo] at hi; rw [if_neg (by omega), List.map_nil, List.append_nil] at hi; exact hi
      exact ⟨⟨_, rfl⟩, .inl ⟨_, hfin0, hj.1⟩⟩

end Go.Proofs.Ytbdgelipabndaaa
