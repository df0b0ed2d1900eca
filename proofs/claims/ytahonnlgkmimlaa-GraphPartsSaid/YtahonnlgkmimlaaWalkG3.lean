/-
  Walks, written by program: merge.
-/
import Derived.Test.YtahonnlgkmimlaaProg
import Derived.Test.YtahonnlgkmimlaaWalkG1
set_option linter.unusedSimpArgs false
set_option linter.unusedVariables false
namespace Go.Proofs.Ytahonnlgkmimlaa
open Go.RowKit

set_option maxRecDepth 100000 in
set_option maxHeartbeats 1000000 in
theorem merge_any (va vb : Value) (la lb : List Int) (n : Int) (o : Orig) (ha : Rd (· < o.w.heap.size) o.w va la) (hb : Rd (· < o.w.heap.size) o.w vb lb) (hs : la.length + lb.length ≤ 1000000000) :
  Calls Try.prog 78 [va, vb, .int .i64 n].toArray o.w (Giv o (fun S v w' => Rd S w' v (mergeL la lb n))) := by
  refine enter Try.f78 78 Try.func78 fun a hA => ?_
  replace hA := env_sub [(0, va), (1, vb), (2, .int .i64 n)] hA
  have H := Fr.start o
  refine go_seq fun K1 hK1 => ?_
  refine q_reg [] [(0, va), (1, vb), (2, .int .i64 n)] ((True) ∧ True) hA H ⟨trivial, trivial⟩ fun a w2 hA H _ => ?_
  refine hK1 _ _ ?_
  refine go_seq fun K3 hK3 => ?_
  refine q_reg [] [(0, va), (1, vb), (2, .int .i64 n), (7, (.slice none 0 0))] ((True) ∧ True) hA H ⟨trivial, trivial⟩ fun a w4 hA H _ => ?_
  refine hK3 _ _ ?_
  refine go_seq fun K5 hK5 => ?_
  refine go_block 0 ?_
  replace H := H.newRow (α := Int) 3
  refine go_loop_ (Value × Value × List Int × List Int × Value × List Int) (fun x_ a W => (fun (vp : Value) (vq : Value) (lp : List Int) (lq : List Int) (vr : Value) (l : List Int) => EnvOk 78 a (keepEnv [(0, vp), (1, vq), (2, .int .i64 n), (7, vr)]) ∧ (∃ S, Fr o W S [.row 3 vr l]) ∧ Rd (· < o.w.heap.size) o.w vp lp ∧ Rd (· < o.w.heap.size) o.w vq lq ∧ l.length + lp.length + lq.length ≤ la.length + lb.length ∧ l ++ mergeL lp lq n = mergeL la lb n) x_.1 x_.2.1 x_.2.2.1 x_.2.2.2.1 x_.2.2.2.2.1 x_.2.2.2.2.2) (fun x_ => (fun (vp : Value) (vq : Value) (lp : List Int) (lq : List Int) (vr : Value) (l : List Int) => lp.length + lq.length) x_.1 x_.2.1 x_.2.2.1 x_.2.2.2.1 x_.2.2.2.2.1 x_.2.2.2.2.2) (va, vb, la, lb, .slice none 0 0, []) ?_ (fun x_ a w7 hI => ?_)
  · (try dsimp only); exact ⟨env_sub _ hA, ⟨_, H⟩, ha, hb, by simp, rfl⟩
  obtain ⟨vp, vq, lp, lq, vr, l⟩ := x_
  obtain ⟨hA, ⟨S, H⟩, hp, hq, h1, hi⟩ := hI
  try dsimp only at hp hq h1 hi
  refine go_seq fun K8 hK8 => ?_
  refine go_seq fun K9 hK9 => ?_
  refine q_reg [(9, .int .i64 (lp.length : Int)), (13, .int .i64 (lq.length : Int))] [(0, vp), (1, vq), (2, .int .i64 n), (7, vr), (15, .bool ((decide ((0 : Int) < (lp.length : Int))) || (decide ((0 : Int) < (lq.length : Int)))))] ((True) ∧ (LenOk vp (lp.length : Int)) ∧ (True) ∧ (True) ∧ ((decide ((0 : Int) < (lp.length : Int))) = false → True) ∧ ((decide ((0 : Int) < (lp.length : Int))) = false → LenOk vq (lq.length : Int)) ∧ ((decide ((0 : Int) < (lp.length : Int))) = false → True) ∧ (True) ∧ True) hA H ⟨trivial, by exact len_ok (H.arg hp), trivial, trivial, fun _ => trivial, fun _ => by exact len_ok (H.arg hq), fun _ => trivial, trivial, trivial⟩ fun a w10 hA H _ => ?_
  refine hK9 _ _ ?_
  refine go_cond hA (.tmp 15) ((decide ((0 : Int) < (lp.length : Int))) || (decide ((0 : Int) < (lq.length : Int)))) (fun hb11 => ?_) (fun hb11 => ?_)
  · have hhb11 := (oT hb11).imp (fun h => of_decide_eq_true h) (fun h => of_decide_eq_true h)
    refine go_skip ?_
    refine hK8 _ _ ?_
    refine go_block 1 ?_
    refine go_block 2 ?_
    refine go_seq fun K12 hK12 => ?_
    refine q_draw [(28, .int .i64 (lq.length : Int)), (32, .int .i64 (lp.length : Int)), (37, .int .i64 (lp.getD (0 : Int).toNat 0)), (40, .int .i64 (lq.getD (0 : Int).toNat 0))] [(0, vp), (1, vq), (2, .int .i64 n), (7, vr), (26, .bool ((decide ((lq.length : Int) = 0)) || ((decide ((0 : Int) < (lp.length : Int))) && (decide ((lp.getD (0 : Int).toNat 0) < (lq.getD (0 : Int).toNat 0))))))] ((True) ∧ (LenOk vq (lq.length : Int)) ∧ (True) ∧ (True) ∧ ((decide ((lq.length : Int) = 0)) = false → True) ∧ ((decide ((lq.length : Int) = 0)) = false → LenOk vp (lp.length : Int)) ∧ ((decide ((lq.length : Int) = 0)) = false → True) ∧ ((decide ((lq.length : Int) = 0)) = false → True) ∧ ((decide ((lq.length : Int) = 0)) = false → (decide ((0 : Int) < (lp.length : Int))) = true → True) ∧ ((decide ((lq.length : Int) = 0)) = false → (decide ((0 : Int) < (lp.length : Int))) = true → (Try.prog.info? 3).isSome = true ∧ IdxOk vp 0) ∧ ((decide ((lq.length : Int) = 0)) = false → (decide ((0 : Int) < (lp.length : Int))) = true → CellOk (On w10) (hdB vp) (hdO vp + (0 : Int).toNat * 1) (.int .i64 (lp.getD (0 : Int).toNat 0))) ∧ ((decide ((lq.length : Int) = 0)) = false → (decide ((0 : Int) < (lp.length : Int))) = true → True) ∧ ((decide ((lq.length : Int) = 0)) = false → (decide ((0 : Int) < (lp.length : Int))) = true → (Try.prog.info? 3).isSome = true ∧ IdxOk vq 0) ∧ ((decide ((lq.length : Int) = 0)) = false → (decide ((0 : Int) < (lp.length : Int))) = true → CellOk (On w10) (hdB vq) (hdO vq + (0 : Int).toNat * 1) (.int .i64 (lq.getD (0 : Int).toNat 0))) ∧ ((decide ((lq.length : Int) = 0)) = false → (decide ((0 : Int) < (lp.length : Int))) = true → True) ∧ ((decide ((lq.length : Int) = 0)) = false → True) ∧ (True) ∧ (True) ∧ True) hA H ⟨trivial, by exact len_ok (H.arg hq), trivial, trivial, fun _ => trivial, fun _ => by exact len_ok (H.arg hp), fun _ => trivial, fun _ => trivial, fun _ _ => trivial, fun hg0 hg1 => by replace hg0 := of_decide_eq_false hg0; replace hg1 := of_decide_eq_true hg1; exact ⟨by kernel_rfl, by exact idx_ok (H.arg hp) (by omega) (by omega)⟩, fun hg0 hg1 => by replace hg0 := of_decide_eq_false hg0; replace hg1 := of_decide_eq_true hg1; exact by exact cell_flat (i := (0 : Int)) (H.arg hp) (by omega) (by omega) 0 0, fun _ _ => trivial, fun hg0 hg1 => by replace hg0 := of_decide_eq_false hg0; replace hg1 := of_decide_eq_true hg1; exact ⟨by kernel_rfl, by exact idx_ok (H.arg hq) (by omega) (by omega)⟩, fun hg0 hg1 => by replace hg0 := of_decide_eq_false hg0; replace hg1 := of_decide_eq_true hg1; exact by exact cell_flat (i := (0 : Int)) (H.arg hq) (by omega) (by omega) 0 0, fun _ _ => trivial, fun _ => trivial, trivial, trivial, trivial⟩ fun a w13 hA H _ => ?_
    refine hK12 _ _ ?_
    refine go_cond hA (.tmp 26) ((decide ((lq.length : Int) = 0)) || ((decide ((0 : Int) < (lp.length : Int))) && (decide ((lp.getD (0 : Int).toNat 0) < (lq.getD (0 : Int).toNat 0))))) (fun hb14 => ?_) (fun hb14 => ?_)
    · have hhb14 := (oT hb14).imp (fun h => of_decide_eq_true h) (fun h => (⟨of_decide_eq_true ((aT h).1), of_decide_eq_true ((aT h).2)⟩ : _ ∧ _))
      refine go_seq fun K15 hK15 => ?_
      refine go_seq fun K16 hK16 => ?_
      refine q_reg [] [(0, vp), (1, vq), (2, .int .i64 n), (7, vr), (45, .bool (decide (n = 1)))] ((True) ∧ (True) ∧ True) hA H ⟨trivial, trivial, trivial⟩ fun a w17 hA H _ => ?_
      refine hK16 _ _ ?_
      refine go_cond hA (.tmp 45) (decide (n = 1)) (fun hb18 => ?_) (fun hb18 => ?_)
      · have hhb18 := of_decide_eq_true hb18
        refine region_list ?_
        refine q_list 0 4 [(49, .int .i64 (lp.getD (0 : Int).toNat 0))] [(0, vp), (1, vq), (2, .int .i64 n), (46, vr), (49, .int .i64 (lp.getD (0 : Int).toNat 0))] ((True) ∧ (True) ∧ ((Try.prog.info? 3).isSome = true ∧ IdxOk vp 0) ∧ (CellOk (On w17) (hdB vp) (hdO vp + (0 : Int).toNat * 1) (.int .i64 (lp.getD (0 : Int).toNat 0))) ∧ True) hA H ⟨trivial, trivial, ⟨by kernel_rfl, by exact idx_ok (H.arg hp) (by omega) (by omega)⟩, by exact cell_flat (i := (0 : Int)) (H.arg hp) (by omega) (by omega) 0 0, trivial⟩ fun a w19 hA H _ => ?_
        refine list_at 4 ?_; refine q_lit 4 50 27 1 #[(0, .tmp 49)] 3 [(0, .int .i64 (lp.getD (0 : Int).toNat 0))] [.int .i64 (lp.getD (0 : Int).toNat 0)] [(0, vp), (1, vq), (2, .int .i64 n), (46, vr)] hA H fun b20 a w21 H hA hG hge_b20 => ?_
        clear hge_b20
        refine list_at 5 ?_; refine q_push 5 51 (.tmp 46) (.tmp 50) 1 0 b20 1 1 vr l [(lp.getD (0 : Int).toNat 0)] [.int .i64 (lp.getD (0 : Int).toNat 0)] [(0, vp), (1, vq), (2, .int .i64 n)] hA H Try.E27 rfl rfl (by exact (RowRd.single (α := Int) rfl)) rfl (by simp only [List.length_cons, List.length_nil, List.length_append]; omega) (by decide) fun v22 a w23 H hA hG => ?_
        replace H : Fr _ _ _ [.row 3 v22 (l ++ [(lp.getD (0 : Int).toNat 0)])] := H.drop 0
        refine q_list 6 1 [] [(0, vp), (1, vq), (2, .int .i64 n), (7, v22)] ((True) ∧ True) hA H ⟨trivial, trivial⟩ fun a w24 hA H _ => ?_
        refine list_end ?_
        refine hK15 _ _ ?_
        obtain ⟨u25, _, hu25c, hu25⟩ := reslice (P := Try.prog) hp 1 lp.length (by omega) (by omega) 27 Try.underlying27 (by kernel_rfl) (by kernel_rfl)
        rw [List.take_of_length_le (by rw [List.length_drop]; omega)] at hu25
        refine q_reg [(53, u25)] [(0, u25), (1, vq), (2, .int .i64 n), (7, v22)] ((True) ∧ (∀ w, (Instr.sliceAt 27 vp (some (.int .i64 1)) none none).run Try.prog w = .ok u25 w) ∧ (True) ∧ True) hA H ⟨trivial, fun w => by exact hu25c rfl .i64 w, trivial, trivial⟩ fun a w26 hA H _ => ?_
        refine ⟨(u25, vq, lp.drop 1, lq, v22, l ++ [(lp.getD (0 : Int).toNat 0)]), ⟨env_sub _ hA, ⟨_, H⟩, ?_⟩, ?_⟩
        · (try dsimp only); exact ⟨hu25, hq, by simp only [List.length_append, List.length_cons, List.length_nil, List.length_drop]; omega, by rw [mergeL_round (by omega)] at hi; (repeat' split at hi) <;> first | (exfalso; omega) | (rw [← hi]; simp only [List.append_assoc, List.nil_append]; done) | (simp only [List.nil_append] at hi; exact hi)⟩
        · (try dsimp only); simp only [List.length_drop]; omega
      · have hhb18 := of_decide_eq_false hb18
        refine go_skip ?_
        refine hK15 _ _ ?_
        obtain ⟨u27, _, hu27c, hu27⟩ := reslice (P := Try.prog) hp 1 lp.length (by omega) (by omega) 27 Try.underlying27 (by kernel_rfl) (by kernel_rfl)
        rw [List.take_of_length_le (by rw [List.length_drop]; omega)] at hu27
        refine q_reg [(53, u27)] [(0, u27), (1, vq), (2, .int .i64 n), (7, vr)] ((True) ∧ (∀ w, (Instr.sliceAt 27 vp (some (.int .i64 1)) none none).run Try.prog w = .ok u27 w) ∧ (True) ∧ True) hA H ⟨trivial, fun w => by exact hu27c rfl .i64 w, trivial, trivial⟩ fun a w28 hA H _ => ?_
        refine ⟨(u27, vq, lp.drop 1, lq, vr, l), ⟨env_sub _ hA, ⟨_, H⟩, ?_⟩, ?_⟩
        · (try dsimp only); exact ⟨hu27, hq, by simp only [List.length_append, List.length_cons, List.length_nil, List.length_drop]; omega, by rw [mergeL_round (by omega)] at hi; (repeat' split at hi) <;> first | (exfalso; omega) | (rw [← hi]; simp only [List.append_assoc, List.nil_append]; done) | (simp only [List.nil_append] at hi; exact hi)⟩
        · (try dsimp only); simp only [List.length_drop]; omega
    · have hhb14 := (⟨of_decide_eq_false ((oF hb14).1), (aF ((oF hb14).2)).imp (fun h => of_decide_eq_false h) (fun h => of_decide_eq_false h)⟩ : _ ∧ _)
      refine go_seq fun K29 hK29 => ?_
      refine q_draw [(56, .int .i64 (lp.length : Int)), (61, .int .i64 (lq.getD (0 : Int).toNat 0)), (64, .int .i64 (lp.getD (0 : Int).toNat 0))] [(0, vp), (1, vq), (2, .int .i64 n), (7, vr), (54, .bool ((decide ((lp.length : Int) = 0)) || (decide ((lq.getD (0 : Int).toNat 0) < (lp.getD (0 : Int).toNat 0)))))] ((True) ∧ (LenOk vp (lp.length : Int)) ∧ (True) ∧ (True) ∧ ((decide ((lp.length : Int) = 0)) = false → True) ∧ ((decide ((lp.length : Int) = 0)) = false → (Try.prog.info? 3).isSome = true ∧ IdxOk vq 0) ∧ ((decide ((lp.length : Int) = 0)) = false → CellOk (On w13) (hdB vq) (hdO vq + (0 : Int).toNat * 1) (.int .i64 (lq.getD (0 : Int).toNat 0))) ∧ ((decide ((lp.length : Int) = 0)) = false → True) ∧ ((decide ((lp.length : Int) = 0)) = false → (Try.prog.info? 3).isSome = true ∧ IdxOk vp 0) ∧ ((decide ((lp.length : Int) = 0)) = false → CellOk (On w13) (hdB vp) (hdO vp + (0 : Int).toNat * 1) (.int .i64 (lp.getD (0 : Int).toNat 0))) ∧ ((decide ((lp.length : Int) = 0)) = false → True) ∧ (True) ∧ (True) ∧ True) hA H ⟨trivial, by exact len_ok (H.arg hp), trivial, trivial, fun _ => trivial, fun hg0 => by replace hg0 := of_decide_eq_false hg0; exact ⟨by kernel_rfl, by exact idx_ok (H.arg hq) (by omega) (by omega)⟩, fun hg0 => by replace hg0 := of_decide_eq_false hg0; exact by exact cell_flat (i := (0 : Int)) (H.arg hq) (by omega) (by omega) 0 0, fun _ => trivial, fun hg0 => by replace hg0 := of_decide_eq_false hg0; exact ⟨by kernel_rfl, by exact idx_ok (H.arg hp) (by omega) (by omega)⟩, fun hg0 => by replace hg0 := of_decide_eq_false hg0; exact by exact cell_flat (i := (0 : Int)) (H.arg hp) (by omega) (by omega) 0 0, fun _ => trivial, trivial, trivial, trivial⟩ fun a w30 hA H _ => ?_
      refine hK29 _ _ ?_
      refine go_cond hA (.tmp 54) ((decide ((lp.length : Int) = 0)) || (decide ((lq.getD (0 : Int).toNat 0) < (lp.getD (0 : Int).toNat 0)))) (fun hb31 => ?_) (fun hb31 => ?_)
      · have hhb31 := (oT hb31).imp (fun h => of_decide_eq_true h) (fun h => of_decide_eq_true h)
        refine go_seq fun K32 hK32 => ?_
        refine go_seq fun K33 hK33 => ?_
        refine q_reg [] [(0, vp), (1, vq), (2, .int .i64 n), (7, vr), (68, .bool (decide (n = 1)))] ((True) ∧ (True) ∧ True) hA H ⟨trivial, trivial, trivial⟩ fun a w34 hA H _ => ?_
        refine hK33 _ _ ?_
        refine go_cond hA (.tmp 68) (decide (n = 1)) (fun hb35 => ?_) (fun hb35 => ?_)
        · have hhb35 := of_decide_eq_true hb35
          refine region_list ?_
          refine q_list 0 4 [(72, .int .i64 (lq.getD (0 : Int).toNat 0))] [(0, vp), (1, vq), (2, .int .i64 n), (69, vr), (72, .int .i64 (lq.getD (0 : Int).toNat 0))] ((True) ∧ (True) ∧ ((Try.prog.info? 3).isSome = true ∧ IdxOk vq 0) ∧ (CellOk (On w34) (hdB vq) (hdO vq + (0 : Int).toNat * 1) (.int .i64 (lq.getD (0 : Int).toNat 0))) ∧ True) hA H ⟨trivial, trivial, ⟨by kernel_rfl, by exact idx_ok (H.arg hq) (by omega) (by omega)⟩, by exact cell_flat (i := (0 : Int)) (H.arg hq) (by omega) (by omega) 0 0, trivial⟩ fun a w36 hA H _ => ?_
          refine list_at 4 ?_; refine q_lit 4 73 27 1 #[(0, .tmp 72)] 3 [(0, .int .i64 (lq.getD (0 : Int).toNat 0))] [.int .i64 (lq.getD (0 : Int).toNat 0)] [(0, vp), (1, vq), (2, .int .i64 n), (69, vr)] hA H fun b37 a w38 H hA hG hge_b37 => ?_
          clear hge_b37
          refine list_at 5 ?_; refine q_push 5 74 (.tmp 69) (.tmp 73) 1 0 b37 1 1 vr l [(lq.getD (0 : Int).toNat 0)] [.int .i64 (lq.getD (0 : Int).toNat 0)] [(0, vp), (1, vq), (2, .int .i64 n)] hA H Try.E27 rfl rfl (by exact (RowRd.single (α := Int) rfl)) rfl (by simp only [List.length_cons, List.length_nil, List.length_append]; omega) (by decide) fun v39 a w40 H hA hG => ?_
          replace H : Fr _ _ _ [.row 3 v39 (l ++ [(lq.getD (0 : Int).toNat 0)])] := H.drop 0
          refine q_list 6 1 [] [(0, vp), (1, vq), (2, .int .i64 n), (7, v39)] ((True) ∧ True) hA H ⟨trivial, trivial⟩ fun a w41 hA H _ => ?_
          refine list_end ?_
          refine hK32 _ _ ?_
          obtain ⟨u42, _, hu42c, hu42⟩ := reslice (P := Try.prog) hq 1 lq.length (by omega) (by omega) 27 Try.underlying27 (by kernel_rfl) (by kernel_rfl)
          rw [List.take_of_length_le (by rw [List.length_drop]; omega)] at hu42
          refine q_reg [(76, u42)] [(0, vp), (1, u42), (2, .int .i64 n), (7, v39)] ((True) ∧ (∀ w, (Instr.sliceAt 27 vq (some (.int .i64 1)) none none).run Try.prog w = .ok u42 w) ∧ (True) ∧ True) hA H ⟨trivial, fun w => by exact hu42c rfl .i64 w, trivial, trivial⟩ fun a w43 hA H _ => ?_
          refine ⟨(vp, u42, lp, lq.drop 1, v39, l ++ [(lq.getD (0 : Int).toNat 0)]), ⟨env_sub _ hA, ⟨_, H⟩, ?_⟩, ?_⟩
          · (try dsimp only); exact ⟨hp, hu42, by simp only [List.length_append, List.length_cons, List.length_nil, List.length_drop]; omega, by rw [mergeL_round (by omega)] at hi; (repeat' split at hi) <;> first | (exfalso; omega) | (rw [← hi]; simp only [List.append_assoc, List.nil_append]; done) | (simp only [List.nil_append] at hi; exact hi)⟩
          · (try dsimp only); simp only [List.length_drop]; omega
        · have hhb35 := of_decide_eq_false hb35
          refine go_skip ?_
          refine hK32 _ _ ?_
          obtain ⟨u44, _, hu44c, hu44⟩ := reslice (P := Try.prog) hq 1 lq.length (by omega) (by omega) 27 Try.underlying27 (by kernel_rfl) (by kernel_rfl)
          rw [List.take_of_length_le (by rw [List.length_drop]; omega)] at hu44
          refine q_reg [(76, u44)] [(0, vp), (1, u44), (2, .int .i64 n), (7, vr)] ((True) ∧ (∀ w, (Instr.sliceAt 27 vq (some (.int .i64 1)) none none).run Try.prog w = .ok u44 w) ∧ (True) ∧ True) hA H ⟨trivial, fun w => by exact hu44c rfl .i64 w, trivial, trivial⟩ fun a w45 hA H _ => ?_
          refine ⟨(vp, u44, lp, lq.drop 1, vr, l), ⟨env_sub _ hA, ⟨_, H⟩, ?_⟩, ?_⟩
          · (try dsimp only); exact ⟨hp, hu44, by simp only [List.length_append, List.length_cons, List.length_nil, List.length_drop]; omega, by rw [mergeL_round (by omega)] at hi; (repeat' split at hi) <;> first | (exfalso; omega) | (rw [← hi]; simp only [List.append_assoc, List.nil_append]; done) | (simp only [List.nil_append] at hi; exact hi)⟩
          · (try dsimp only); simp only [List.length_drop]; omega
      · have hhb31 := (⟨of_decide_eq_false ((oF hb31).1), of_decide_eq_false ((oF hb31).2)⟩ : _ ∧ _)
        refine go_seq fun K46 hK46 => ?_
        refine region_list ?_
        refine q_list 0 4 [(19, .int .i64 (lp.getD (0 : Int).toNat 0))] [(0, vp), (1, vq), (2, .int .i64 n), (16, vr), (19, .int .i64 (lp.getD (0 : Int).toNat 0))] ((True) ∧ (True) ∧ ((Try.prog.info? 3).isSome = true ∧ IdxOk vp 0) ∧ (CellOk (On w30) (hdB vp) (hdO vp + (0 : Int).toNat * 1) (.int .i64 (lp.getD (0 : Int).toNat 0))) ∧ True) hA H ⟨trivial, trivial, ⟨by kernel_rfl, by exact idx_ok (H.arg hp) (by omega) (by omega)⟩, by exact cell_flat (i := (0 : Int)) (H.arg hp) (by omega) (by omega) 0 0, trivial⟩ fun a w47 hA H _ => ?_
        refine list_at 4 ?_; refine q_lit 4 20 27 1 #[(0, .tmp 19)] 3 [(0, .int .i64 (lp.getD (0 : Int).toNat 0))] [.int .i64 (lp.getD (0 : Int).toNat 0)] [(0, vp), (1, vq), (2, .int .i64 n), (16, vr)] hA H fun b48 a w49 H hA hG hge_b48 => ?_
        clear hge_b48
        refine list_at 5 ?_; refine q_push 5 21 (.tmp 16) (.tmp 20) 1 0 b48 1 1 vr l [(lp.getD (0 : Int).toNat 0)] [.int .i64 (lp.getD (0 : Int).toNat 0)] [(0, vp), (1, vq), (2, .int .i64 n)] hA H Try.E27 rfl rfl (by exact (RowRd.single (α := Int) rfl)) rfl (by simp only [List.length_cons, List.length_nil, List.length_append]; omega) (by decide) fun v50 a w51 H hA hG => ?_
        replace H : Fr _ _ _ [.row 3 v50 (l ++ [(lp.getD (0 : Int).toNat 0)])] := H.drop 0
        refine q_list 6 1 [] [(0, vp), (1, vq), (2, .int .i64 n), (7, v50)] ((True) ∧ True) hA H ⟨trivial, trivial⟩ fun a w52 hA H _ => ?_
        refine list_end ?_
        refine hK46 _ _ ?_
        obtain ⟨u53, _, hu53c, hu53⟩ := reslice (P := Try.prog) hp 1 lp.length (by omega) (by omega) 27 Try.underlying27 (by kernel_rfl) (by kernel_rfl)
        rw [List.take_of_length_le (by rw [List.length_drop]; omega)] at hu53
        obtain ⟨u54, _, hu54c, hu54⟩ := reslice (P := Try.prog) hq 1 lq.length (by omega) (by omega) 27 Try.underlying27 (by kernel_rfl) (by kernel_rfl)
        rw [List.take_of_length_le (by rw [List.length_drop]; omega)] at hu54
        refine q_draw [(23, u53), (25, u54)] [(0, u53), (1, u54), (2, .int .i64 n), (7, v50)] ((True) ∧ (∀ w, (Instr.sliceAt 27 vp (some (.int .i64 1)) none none).run Try.prog w = .ok u53 w) ∧ (True) ∧ (∀ w, (Instr.sliceAt 27 vq (some (.int .i64 1)) none none).run Try.prog w = .ok u54 w) ∧ (True) ∧ (True) ∧ True) hA H ⟨trivial, fun w => by exact hu53c rfl .i64 w, trivial, fun w => by exact hu54c rfl .i64 w, trivial, trivial, trivial⟩ fun a w55 hA H _ => ?_
        refine ⟨(u53, u54, lp.drop 1, lq.drop 1, v50, l ++ [(lp.getD (0 : Int).toNat 0)]), ⟨env_sub _ hA, ⟨_, H⟩, ?_⟩, ?_⟩
        · (try dsimp only); exact ⟨hu53, hu54, by simp only [List.length_append, List.length_cons, List.length_nil, List.length_drop]; omega, by rw [mergeL_round (by omega)] at hi; (repeat' split at hi) <;> first | (exfalso; omega) | (rw [← hi]; simp only [List.append_assoc, List.nil_append]; done) | (simp only [List.nil_append] at hi; exact hi)⟩
        · (try dsimp only); simp only [List.length_drop]; omega
  · have hhb11 := (⟨of_decide_eq_false ((oF hb11).1), of_decide_eq_false ((oF hb11).2)⟩ : _ ∧ _)
    refine go_exit 0 ?_
    refine hK5 _ _ ?_
    refine go_seq fun K56 hK56 => ?_
    refine q_reg [] [(6, vr)] ((True) ∧ (True) ∧ True) hA H ⟨trivial, trivial, trivial⟩ fun a w57 hA H _ => ?_
    refine hK56 _ _ ?_
    refine go_ret_ ?_
    refine ret_one 6 vr hA ?_
    have ho := H.give 0 rfl
    rw [mergeL_nil hhb11, List.append_nil] at hi; rw [hi] at ho; exact ⟨_, rfl, ho, H.below⟩

end Go.Proofs.Ytahonnlgkmimlaa
