/-
  Walks, written by program: Right, rising, isNaN, cmpNaN, less, BinarySearch, Has.
-/
import Derived.Test.YtahonnlgkmimlaaProg
import Derived.Test.YtahonnlgkmimlaaGraphA
import Derived.Test.YtahonnlgkmimlaaTabG
set_option linter.unusedSimpArgs false
set_option linter.unusedVariables false
namespace Go.Proofs.Ytahonnlgkmimlaa
open Go.RowKit

set_option maxRecDepth 100000 in
set_option maxHeartbeats 1000000 in
theorem right_any (n : Int) (ve : Value) (E : List (Int × Int)) (w : World) (hn : -9223372036854775808 ≤ n ∧ n ≤ 9223372036854775807) (hE : Rd (· < w.heap.size) w ve E) :
  Calls Try.prog 20 [.agg #[.int .i64 n, ve]].toArray w (Ans (.int .i64 (rightE n E)) w) := by
  refine enter Try.f20 50 Try.func20 fun a hA => ?_
  replace hA := env_sub [(0, .agg #[.int .i64 n, ve])] hA
  have H := Fr.start (org w)
  refine go_seq fun K1 hK1 => ?_
  refine region_list ?_
  refine list_at 0 ?_; refine q_box 0 1 24 (.tmp 0) (.agg #[.int .i64 n, ve]) [.int .i64 n, ve] [] hA H fun b2 a w3 H hA hG hge_b2 => ?_
  clear hge_b2
  refine q_list 1 1 [] [(1, .pointer (some ⟨b2, 0, none⟩))] ((True) ∧ True) hA H ⟨trivial, trivial⟩ fun a w4 hA H _ => ?_
  refine list_end ?_
  refine hK1 _ _ ?_
  refine go_seq fun K5 hK5 => ?_
  refine go_seq fun K6 hK6 => ?_
  refine q_reg [(6, .int .i64 n)] [(1, .pointer (some ⟨b2, 0, none⟩)), (7, .bool (decide (n < 0)))] ((0 < Try.prog.cellsOf 3) ∧ (CellOk (On w4) b2 (0 + 0) (.int .i64 n)) ∧ (True) ∧ True) hA H ⟨by decide +kernel, by exact box_cell H 0 rfl 0, trivial, trivial⟩ fun a w7 hA H _ => ?_
  refine hK6 _ _ ?_
  refine go_cond hA (.tmp 7) (decide (n < 0)) (fun hb8 => ?_) (fun hb8 => ?_)
  · have hhb8 := of_decide_eq_true hb8
    refine go_seq fun K9 hK9 => ?_
    refine q_reg [] [(2, .int .i64 3)] ((True) ∧ True) hA H ⟨trivial, trivial⟩ fun a w10 hA H _ => ?_
    refine hK9 _ _ ?_
    refine go_ret_ ?_
    refine ret_one 2 (.int .i64 3) hA ?_
    exact ans_i' (by unfold rightE; first | rw [if_pos (by omega)] | rw [if_neg (by omega), if_pos (by omega)]) H.below
  · have hhb8 := of_decide_eq_false hb8
    refine go_skip ?_
    refine hK5 _ _ ?_
    refine go_seq fun K11 hK11 => ?_
    refine go_seq fun K12 hK12 => ?_
    refine q_reg [(9, .int .i64 n), (13, ve), (14, .int .i64 (E.length : Int)), (16, .int .i64 n)] [(1, .pointer (some ⟨b2, 0, none⟩)), (19, .bool ((decide ((1024 : Int) < n)) || (decide (1024 - n < (E.length : Int)))))] ((0 < Try.prog.cellsOf 3) ∧ (CellOk (On w7) b2 (0 + 0) (.int .i64 n)) ∧ (True) ∧ (True) ∧ ((decide ((1024 : Int) < n)) = false → 0 < Try.prog.cellsOf 22) ∧ ((decide ((1024 : Int) < n)) = false → CellOk (On w7) b2 (0 + 1) (ve)) ∧ ((decide ((1024 : Int) < n)) = false → LenOk ve (E.length : Int)) ∧ ((decide ((1024 : Int) < n)) = false → 0 < Try.prog.cellsOf 3) ∧ ((decide ((1024 : Int) < n)) = false → CellOk (On w7) b2 (0 + 0) (.int .i64 n)) ∧ ((decide ((1024 : Int) < n)) = false → InR .i64 (1024 - n)) ∧ ((decide ((1024 : Int) < n)) = false → True) ∧ (True) ∧ True) hA H ⟨by decide +kernel, by exact box_cell H 0 rfl 0, trivial, trivial, fun _ => by decide +kernel, fun _ => by exact box_cell H 0 rfl 1, fun _ => by exact len_ok (H.arg hE), fun _ => by decide +kernel, fun _ => by exact box_cell H 0 rfl 0, fun hg0 => by replace hg0 := of_decide_eq_false hg0; exact ⟨by omega, by omega⟩, fun _ => trivial, trivial, trivial⟩ fun a w13 hA H _ => ?_
    refine hK12 _ _ ?_
    refine go_cond hA (.tmp 19) ((decide ((1024 : Int) < n)) || (decide (1024 - n < (E.length : Int)))) (fun hb14 => ?_) (fun hb14 => ?_)
    · have hhb14 := (oT hb14).imp (fun h => of_decide_eq_true h) (fun h => of_decide_eq_true h)
      refine go_seq fun K15 hK15 => ?_
      refine q_reg [] [(2, .int .i64 2)] ((True) ∧ True) hA H ⟨trivial, trivial⟩ fun a w16 hA H _ => ?_
      refine hK15 _ _ ?_
      refine go_ret_ ?_
      refine ret_one 2 (.int .i64 2) hA ?_
      exact ans_i' (by unfold rightE; first | rw [if_pos (by omega)] | rw [if_neg (by omega), if_pos (by omega)]) H.below
    · have hhb14 := (⟨of_decide_eq_false ((oF hb14).1), of_decide_eq_false ((oF hb14).2)⟩ : _ ∧ _)
      refine go_skip ?_
      refine hK11 _ _ ?_
      refine go_seq fun K17 hK17 => ?_
      refine go_seq fun K18 hK18 => ?_
      refine q_reg [(21, ve), (22, .int .i64 (E.length : Int))] [(1, .pointer (some ⟨b2, 0, none⟩)), (21, ve), (22, .int .i64 (E.length : Int)), (23, .int .i64 0)] ((0 < Try.prog.cellsOf 22) ∧ (CellOk (On w13) b2 (0 + 1) (ve)) ∧ (LenOk ve (E.length : Int)) ∧ (True) ∧ True) hA H ⟨by decide +kernel, by exact box_cell H 0 rfl 1, by exact len_ok (H.arg hE), trivial, trivial⟩ fun a w19 hA H _ => ?_
      refine hK18 _ _ ?_
      refine go_block 0 ?_
      refine go_loop_ (Int) (fun x_ a W => (fun (i : Int) => EnvOk 50 a (keepEnv [(1, .pointer (some ⟨b2, 0, none⟩)), (21, ve), (22, .int .i64 (E.length : Int)), (23, .int .i64 i)]) ∧ (∃ S, Fr (org w) W S [.box b2 24 [.int .i64 n, ve]]) ∧ 0 ≤ i ∧ ∀ j : Nat, (j : Int) < i → okE n (E.getD j (0, 0))) x_) (fun x_ => (fun (i : Int) => ((E.length : Int) - i).toNat) x_) (0) ?_ (fun i a w21 hI => ?_)
      · (try dsimp only); exact ⟨env_sub _ hA, ⟨_, H⟩, by omega, fun j hj => by omega⟩
      obtain ⟨hA, ⟨S, H⟩, h0, hok⟩ := hI
      try dsimp only at h0 hok
      refine go_seq fun K22 hK22 => ?_
      refine q_reg [] [(1, .pointer (some ⟨b2, 0, none⟩)), (21, ve), (22, .int .i64 (E.length : Int)), (23, .int .i64 i), (24, .bool (decide (i < (E.length : Int))))] ((True) ∧ True) hA H ⟨trivial, trivial⟩ fun a w23 hA H _ => ?_
      refine hK22 _ _ ?_
      refine go_seq fun K24 hK24 => ?_
      refine go_cond hA (.tmp 24) (decide (i < (E.length : Int))) (fun hb25 => ?_) (fun hb25 => ?_)
      · have hhb25 := of_decide_eq_true hb25
        refine go_skip ?_
        refine hK24 _ _ ?_
        refine go_seq fun K26 hK26 => ?_
        refine go_block 1 ?_
        refine go_seq fun K27 hK27 => ?_
        refine region_list ?_
        refine q_list 0 2 [(26, .agg #[.int .i64 ((E.getD i.toNat (0, 0)).1), .int .i64 ((E.getD i.toNat (0, 0)).2)])] [(1, .pointer (some ⟨b2, 0, none⟩)), (21, ve), (22, .int .i64 (E.length : Int)), (23, .int .i64 i), (26, .agg #[.int .i64 ((E.getD i.toNat (0, 0)).1), .int .i64 ((E.getD i.toNat (0, 0)).2)])] (((Try.prog.info? 99).isSome = true ∧ IdxOk ve i) ∧ ((Try.prog.info? 99).isSome = true ∧ RowOk (On w23) (hdB ve) (hdO ve + i.toNat * 2) (Try.prog.cellsOf 99) #[.int .i64 ((E.getD i.toNat (0, 0)).1), .int .i64 ((E.getD i.toNat (0, 0)).2)]) ∧ True) hA H ⟨⟨by kernel_rfl, by exact idx_ok (H.arg hE) (by omega) (by omega)⟩, ⟨by kernel_rfl, by exact row_flat (i := i) (H.arg hE) (by omega) (by omega) (0, 0)⟩, trivial⟩ fun a w28 hA H _ => ?_
        refine list_at 2 ?_; refine q_alloc 2 4 99 [.int .i64 0, .int .i64 0] [(1, .pointer (some ⟨b2, 0, none⟩)), (21, ve), (22, .int .i64 (E.length : Int)), (23, .int .i64 i), (26, .agg #[.int .i64 ((E.getD i.toNat (0, 0)).1), .int .i64 ((E.getD i.toNat (0, 0)).2)])] hA H fun b29 a w30 H hA hG hge_b29 => ?_
        clear hge_b29
        refine list_at 3 ?_; refine q_store 3 99 (.tmp 4) (.tmp 26) 0 b29 (0) 99 [.int .i64 0, .int .i64 0] [.int .i64 ((E.getD i.toNat (0, 0)).1), .int .i64 ((E.getD i.toNat (0, 0)).2)] [.int .i64 ((E.getD i.toNat (0, 0)).1), .int .i64 ((E.getD i.toNat (0, 0)).2)] (.agg #[.int .i64 ((E.getD i.toNat (0, 0)).1), .int .i64 ((E.getD i.toNat (0, 0)).2)]) [(1, .pointer (some ⟨b2, 0, none⟩)), (4, .pointer (some ⟨b29, 0, none⟩)), (21, ve), (22, .int .i64 (E.length : Int)), (23, .int .i64 i)] hA H rfl rfl (Nat.le_of_ble_eq_true (by kernel_rfl)) rfl (fun v hv => by simp only [List.mem_cons, List.not_mem_nil, or_false] at hv; rcases hv with rfl | rfl; exact rfl; exact rfl) fun a w31 H hA hG => ?_
        replace H : Fr _ _ _ [.box b29 99 [.int .i64 ((E.getD i.toNat (0, 0)).1), .int .i64 ((E.getD i.toNat (0, 0)).2)], .box b2 24 [.int .i64 n, ve]] := H
        refine list_end ?_
        refine hK27 _ _ ?_
        refine go_seq fun K32 hK32 => ?_
        refine q_reg [(28, .int .i64 ((E.getD i.toNat (0, 0)).1)), (32, .int .i64 ((E.getD i.toNat (0, 0)).1)), (34, .int .i64 n), (39, .int .i64 ((E.getD i.toNat (0, 0)).2)), (44, .int .i64 ((E.getD i.toNat (0, 0)).2)), (46, .int .i64 n)] [(1, .pointer (some ⟨b2, 0, none⟩)), (21, ve), (22, .int .i64 (E.length : Int)), (23, .int .i64 i), (48, .bool ((((decide ((E.getD i.toNat (0, 0)).1 < 0)) || (decide (n ≤ (E.getD i.toNat (0, 0)).1))) || (decide ((E.getD i.toNat (0, 0)).2 < 0))) || (decide (n ≤ (E.getD i.toNat (0, 0)).2))))] ((0 < Try.prog.cellsOf 3) ∧ (CellOk (On w31) b29 (0 + 0) (.int .i64 ((E.getD i.toNat (0, 0)).1))) ∧ (True) ∧ (True) ∧ ((decide ((E.getD i.toNat (0, 0)).1 < 0)) = false → 0 < Try.prog.cellsOf 3) ∧ ((decide ((E.getD i.toNat (0, 0)).1 < 0)) = false → CellOk (On w31) b29 (0 + 0) (.int .i64 ((E.getD i.toNat (0, 0)).1))) ∧ ((decide ((E.getD i.toNat (0, 0)).1 < 0)) = false → 0 < Try.prog.cellsOf 3) ∧ ((decide ((E.getD i.toNat (0, 0)).1 < 0)) = false → CellOk (On w31) b2 (0 + 0) (.int .i64 n)) ∧ ((decide ((E.getD i.toNat (0, 0)).1 < 0)) = false → True) ∧ (True) ∧ (True) ∧ (((decide ((E.getD i.toNat (0, 0)).1 < 0)) || (decide (n ≤ (E.getD i.toNat (0, 0)).1))) = false → 0 < Try.prog.cellsOf 3) ∧ (((decide ((E.getD i.toNat (0, 0)).1 < 0)) || (decide (n ≤ (E.getD i.toNat (0, 0)).1))) = false → CellOk (On w31) b29 (0 + 1) (.int .i64 ((E.getD i.toNat (0, 0)).2))) ∧ (((decide ((E.getD i.toNat (0, 0)).1 < 0)) || (decide (n ≤ (E.getD i.toNat (0, 0)).1))) = false → True) ∧ (True) ∧ (True) ∧ ((((decide ((E.getD i.toNat (0, 0)).1 < 0)) || (decide (n ≤ (E.getD i.toNat (0, 0)).1))) || (decide ((E.getD i.toNat (0, 0)).2 < 0))) = false → 0 < Try.prog.cellsOf 3) ∧ ((((decide ((E.getD i.toNat (0, 0)).1 < 0)) || (decide (n ≤ (E.getD i.toNat (0, 0)).1))) || (decide ((E.getD i.toNat (0, 0)).2 < 0))) = false → CellOk (On w31) b29 (0 + 1) (.int .i64 ((E.getD i.toNat (0, 0)).2))) ∧ ((((decide ((E.getD i.toNat (0, 0)).1 < 0)) || (decide (n ≤ (E.getD i.toNat (0, 0)).1))) || (decide ((E.getD i.toNat (0, 0)).2 < 0))) = false → 0 < Try.prog.cellsOf 3) ∧ ((((decide ((E.getD i.toNat (0, 0)).1 < 0)) || (decide (n ≤ (E.getD i.toNat (0, 0)).1))) || (decide ((E.getD i.toNat (0, 0)).2 < 0))) = false → CellOk (On w31) b2 (0 + 0) (.int .i64 n)) ∧ ((((decide ((E.getD i.toNat (0, 0)).1 < 0)) || (decide (n ≤ (E.getD i.toNat (0, 0)).1))) || (decide ((E.getD i.toNat (0, 0)).2 < 0))) = false → True) ∧ (True) ∧ True) hA H ⟨by decide +kernel, by exact box_cell H 0 rfl 0, trivial, trivial, fun _ => by decide +kernel, fun _ => by exact box_cell H 0 rfl 0, fun _ => by decide +kernel, fun _ => by exact box_cell H 1 rfl 0, fun _ => trivial, trivial, trivial, fun _ => by decide +kernel, fun _ => by exact box_cell H 0 rfl 1, fun _ => trivial, trivial, trivial, fun _ => by decide +kernel, fun _ => by exact box_cell H 0 rfl 1, fun _ => by decide +kernel, fun _ => by exact box_cell H 1 rfl 0, fun _ => trivial, trivial, trivial⟩ fun a w33 hA H _ => ?_
        refine hK32 _ _ ?_
        refine go_cond hA (.tmp 48) ((((decide ((E.getD i.toNat (0, 0)).1 < 0)) || (decide (n ≤ (E.getD i.toNat (0, 0)).1))) || (decide ((E.getD i.toNat (0, 0)).2 < 0))) || (decide (n ≤ (E.getD i.toNat (0, 0)).2))) (fun hb34 => ?_) (fun hb34 => ?_)
        · have hhb34 := (oT hb34).imp (fun h => (oT h).imp (fun h => (oT h).imp (fun h => of_decide_eq_true h) (fun h => of_decide_eq_true h)) (fun h => of_decide_eq_true h)) (fun h => of_decide_eq_true h)
          refine go_seq fun K35 hK35 => ?_
          refine q_reg [] [(2, .int .i64 3)] ((True) ∧ True) hA H ⟨trivial, trivial⟩ fun a w36 hA H _ => ?_
          refine hK35 _ _ ?_
          refine go_ret_ ?_
          refine ret_one 2 (.int .i64 3) hA ?_
          exact ans_i' ((rightE_bad (by omega) (by omega) (by omega) h0 (by omega) (by unfold okE; have := hhb34; omega)).symm) H.below
        · have hhb34 := (⟨(⟨(⟨of_decide_eq_false ((oF ((oF ((oF hb34).1)).1)).1), of_decide_eq_false ((oF ((oF ((oF hb34).1)).1)).2)⟩ : _ ∧ _), of_decide_eq_false ((oF ((oF hb34).1)).2)⟩ : _ ∧ _), of_decide_eq_false ((oF hb34).2)⟩ : _ ∧ _)
          refine go_skip ?_
          refine hK26 _ _ ?_
          refine q_reg [] [(1, .pointer (some ⟨b2, 0, none⟩)), (21, ve), (22, .int .i64 (E.length : Int)), (23, .int .i64 (i + 1))] ((InR .i64 (i + 1)) ∧ (True) ∧ True) hA H ⟨⟨by omega, by omega⟩, trivial, trivial⟩ fun a w37 hA H _ => ?_
          replace H := H.drop 0
          refine ⟨(i + 1), ⟨env_sub _ hA, ⟨_, H⟩, ?_⟩, ?_⟩
          · (try dsimp only); exact ⟨by omega, fun j hj => if e : (j : Int) = i then (by rw [show j = i.toNat by omega]; unfold okE; have := hhb34; omega) else hok j (by omega)⟩
          · (try dsimp only); omega
      · have hhb25 := of_decide_eq_false hb25
        refine go_exit 0 ?_
        refine hK17 _ _ ?_
        refine go_seq fun K38 hK38 => ?_
        refine q_reg [] [(2, .int .i64 0)] ((True) ∧ True) hA H ⟨trivial, trivial⟩ fun a w39 hA H _ => ?_
        refine hK38 _ _ ?_
        refine go_ret_ ?_
        refine ret_one 2 (.int .i64 0) hA ?_
        exact ans_i' ((rightE_ok (by omega) (by omega) (by omega) (by omega) hok).symm) H.below

set_option maxRecDepth 100000 in
set_option maxHeartbeats 1000000 in
theorem rising_any (v : Value) (l : List Int) (n : Int) (w : World) (hl : Rd (· < w.heap.size) w v l) :
  Calls Try.prog 73 [v, .int .i64 n].toArray w (Ans (.bool (decide (risesP l n))) w) := by
  have hlen := rd_len hl
  refine enter Try.f73 35 Try.func73 fun a hA => ?_
  replace hA := env_sub [(0, v), (1, .int .i64 n)] hA
  have H := Fr.start (org w)
  refine go_seq fun K1 hK1 => ?_
  refine q_reg [] [(0, v), (1, .int .i64 n)] ((True) ∧ True) hA H ⟨trivial, trivial⟩ fun a w2 hA H _ => ?_
  refine hK1 _ _ ?_
  refine go_seq fun K3 hK3 => ?_
  refine go_seq fun K4 hK4 => ?_
  refine q_reg [(8, .int .i64 (l.length : Int))] [(0, v), (1, .int .i64 n), (7, v), (8, .int .i64 (l.length : Int)), (9, .int .i64 0)] ((True) ∧ (LenOk v (l.length : Int)) ∧ (True) ∧ True) hA H ⟨trivial, by exact len_ok (H.arg hl), trivial, trivial⟩ fun a w5 hA H _ => ?_
  refine hK4 _ _ ?_
  refine go_block 0 ?_
  refine go_loop_ (Int) (fun x_ a W => (fun (i : Int) => EnvOk 35 a (keepEnv [(0, v), (1, .int .i64 n), (7, v), (8, .int .i64 (l.length : Int)), (9, .int .i64 i)]) ∧ (∃ S, Fr (org w) W S []) ∧ 0 ≤ i ∧ ∀ j : Nat, (j : Int) < i → 0 ≤ l.getD j 0 ∧ l.getD j 0 < n ∧ (0 < j → l.getD (j - 1) 0 < l.getD j 0)) x_) (fun x_ => (fun (i : Int) => ((l.length : Int) - i).toNat) x_) (0) ?_ (fun i a w7 hI => ?_)
  · (try dsimp only); exact ⟨env_sub _ hA, ⟨_, H⟩, by omega, fun j hj => by omega⟩
  obtain ⟨hA, ⟨S, H⟩, h0, hok⟩ := hI
  try dsimp only at h0 hok
  refine go_seq fun K8 hK8 => ?_
  refine q_reg [] [(0, v), (1, .int .i64 n), (7, v), (8, .int .i64 (l.length : Int)), (9, .int .i64 i), (10, .bool (decide (i < (l.length : Int))))] ((True) ∧ True) hA H ⟨trivial, trivial⟩ fun a w9 hA H _ => ?_
  refine hK8 _ _ ?_
  refine go_seq fun K10 hK10 => ?_
  refine go_cond hA (.tmp 10) (decide (i < (l.length : Int))) (fun hb11 => ?_) (fun hb11 => ?_)
  · have hhb11 := of_decide_eq_true hb11
    refine go_skip ?_
    refine hK10 _ _ ?_
    refine go_seq fun K12 hK12 => ?_
    refine go_block 1 ?_
    refine go_seq fun K13 hK13 => ?_
    refine q_reg [(13, .int .i64 (l.getD i.toNat 0))] [(0, v), (1, .int .i64 n), (5, .int .i64 i), (6, .int .i64 (l.getD i.toNat 0)), (7, v), (8, .int .i64 (l.length : Int)), (9, .int .i64 i)] ((True) ∧ ((Try.prog.info? 3).isSome = true ∧ IdxOk v i) ∧ (CellOk (On w9) (hdB v) (hdO v + i.toNat * 1) (.int .i64 (l.getD i.toNat 0))) ∧ (True) ∧ (True) ∧ True) hA H ⟨trivial, ⟨by kernel_rfl, by exact idx_ok (H.arg hl) (by omega) (by omega)⟩, by exact cell_flat (i := i) (H.arg hl) (by omega) (by omega) 0 0, trivial, trivial, trivial⟩ fun a w14 hA H _ => ?_
    refine hK13 _ _ ?_
    refine go_seq fun K15 hK15 => ?_
    refine q_reg [(30, .int .i64 (l.getD (i - 1).toNat 0))] [(0, v), (1, .int .i64 n), (7, v), (8, .int .i64 (l.length : Int)), (9, .int .i64 i), (33, .bool (((decide ((l.getD i.toNat 0) < 0)) || (decide (n ≤ (l.getD i.toNat 0)))) || ((decide ((0 : Int) < i)) && (decide ((l.getD i.toNat 0) ≤ (l.getD (i - 1).toNat 0))))))] ((True) ∧ (True) ∧ (True) ∧ ((decide ((l.getD i.toNat 0) < 0)) = false → True) ∧ ((decide ((l.getD i.toNat 0) < 0)) = false → True) ∧ ((decide ((l.getD i.toNat 0) < 0)) = false → True) ∧ (True) ∧ (True) ∧ (((decide ((l.getD i.toNat 0) < 0)) || (decide (n ≤ (l.getD i.toNat 0)))) = false → True) ∧ (((decide ((l.getD i.toNat 0) < 0)) || (decide (n ≤ (l.getD i.toNat 0)))) = false → True) ∧ (((decide ((l.getD i.toNat 0) < 0)) || (decide (n ≤ (l.getD i.toNat 0)))) = false → True) ∧ (((decide ((l.getD i.toNat 0) < 0)) || (decide (n ≤ (l.getD i.toNat 0)))) = false → (decide ((0 : Int) < i)) = true → True) ∧ (((decide ((l.getD i.toNat 0) < 0)) || (decide (n ≤ (l.getD i.toNat 0)))) = false → (decide ((0 : Int) < i)) = true → True) ∧ (((decide ((l.getD i.toNat 0) < 0)) || (decide (n ≤ (l.getD i.toNat 0)))) = false → (decide ((0 : Int) < i)) = true → True) ∧ (((decide ((l.getD i.toNat 0) < 0)) || (decide (n ≤ (l.getD i.toNat 0)))) = false → (decide ((0 : Int) < i)) = true → InR .i64 (i - 1)) ∧ (((decide ((l.getD i.toNat 0) < 0)) || (decide (n ≤ (l.getD i.toNat 0)))) = false → (decide ((0 : Int) < i)) = true → (Try.prog.info? 3).isSome = true ∧ IdxOk v (i - 1)) ∧ (((decide ((l.getD i.toNat 0) < 0)) || (decide (n ≤ (l.getD i.toNat 0)))) = false → (decide ((0 : Int) < i)) = true → CellOk (On w14) (hdB v) (hdO v + (i - 1).toNat * 1) (.int .i64 (l.getD (i - 1).toNat 0))) ∧ (((decide ((l.getD i.toNat 0) < 0)) || (decide (n ≤ (l.getD i.toNat 0)))) = false → (decide ((0 : Int) < i)) = true → True) ∧ (((decide ((l.getD i.toNat 0) < 0)) || (decide (n ≤ (l.getD i.toNat 0)))) = false → True) ∧ (True) ∧ True) hA H ⟨trivial, trivial, trivial, fun _ => trivial, fun _ => trivial, fun _ => trivial, trivial, trivial, fun _ => trivial, fun _ => trivial, fun _ => trivial, fun _ _ => trivial, fun _ _ => trivial, fun _ _ => trivial, fun hg0 hg1 => by replace hg0 := (⟨of_decide_eq_false ((oF hg0).1), of_decide_eq_false ((oF hg0).2)⟩ : _ ∧ _); replace hg1 := of_decide_eq_true hg1; exact ⟨by omega, by omega⟩, fun hg0 hg1 => by replace hg0 := (⟨of_decide_eq_false ((oF hg0).1), of_decide_eq_false ((oF hg0).2)⟩ : _ ∧ _); replace hg1 := of_decide_eq_true hg1; exact ⟨by kernel_rfl, by exact idx_ok (H.arg hl) (by omega) (by omega)⟩, fun hg0 hg1 => by replace hg0 := (⟨of_decide_eq_false ((oF hg0).1), of_decide_eq_false ((oF hg0).2)⟩ : _ ∧ _); replace hg1 := of_decide_eq_true hg1; exact by exact cell_flat (i := i - 1) (H.arg hl) (by omega) (by omega) 0 0, fun _ _ => trivial, fun _ => trivial, trivial, trivial⟩ fun a w16 hA H _ => ?_
    refine hK15 _ _ ?_
    refine go_cond hA (.tmp 33) (((decide ((l.getD i.toNat 0) < 0)) || (decide (n ≤ (l.getD i.toNat 0)))) || ((decide ((0 : Int) < i)) && (decide ((l.getD i.toNat 0) ≤ (l.getD (i - 1).toNat 0))))) (fun hb17 => ?_) (fun hb17 => ?_)
    · have hhb17 := (oT hb17).imp (fun h => (oT h).imp (fun h => of_decide_eq_true h) (fun h => of_decide_eq_true h)) (fun h => (⟨of_decide_eq_true ((aT h).1), of_decide_eq_true ((aT h).2)⟩ : _ ∧ _))
      refine go_seq fun K18 hK18 => ?_
      refine q_reg [] [(4, .bool false)] ((True) ∧ True) hA H ⟨trivial, trivial⟩ fun a w19 hA H _ => ?_
      refine hK18 _ _ ?_
      refine go_ret_ ?_
      refine ret_one 4 (.bool false) hA ?_
      exact ans_b' ((decide_eq_false (fun q => by have := q i.toNat (by omega); have z := hhb17; rw [show (i - 1).toNat = i.toNat - 1 by omega] at z; omega)).symm) H.below
    · have hhb17 := (⟨(⟨of_decide_eq_false ((oF ((oF hb17).1)).1), of_decide_eq_false ((oF ((oF hb17).1)).2)⟩ : _ ∧ _), (aF ((oF hb17).2)).imp (fun h => of_decide_eq_false h) (fun h => of_decide_eq_false h)⟩ : _ ∧ _)
      refine go_skip ?_
      refine hK12 _ _ ?_
      refine q_reg [] [(0, v), (1, .int .i64 n), (7, v), (8, .int .i64 (l.length : Int)), (9, .int .i64 (i + 1))] ((InR .i64 (i + 1)) ∧ (True) ∧ True) hA H ⟨⟨by omega, by omega⟩, trivial, trivial⟩ fun a w20 hA H _ => ?_
      refine ⟨(i + 1), ⟨env_sub _ hA, ⟨_, H⟩, ?_⟩, ?_⟩
      · (try dsimp only); exact ⟨by omega, fun j hj => if e : (j : Int) = i then (by have q := hhb17; rw [show j = i.toNat by omega]; rw [show (i - 1).toNat = i.toNat - 1 by omega] at q; omega) else hok j (by omega)⟩
      · (try dsimp only); omega
  · have hhb11 := of_decide_eq_false hb11
    refine go_exit 0 ?_
    refine hK3 _ _ ?_
    refine go_seq fun K21 hK21 => ?_
    refine q_reg [] [(4, .bool true)] ((True) ∧ True) hA H ⟨trivial, trivial⟩ fun a w22 hA H _ => ?_
    refine hK21 _ _ ?_
    refine go_ret_ ?_
    refine ret_one 4 (.bool true) hA ?_
    exact ans_b' ((decide_eq_true (fun j hj => hok j (by omega))).symm) H.below

set_option maxRecDepth 100000 in
set_option maxHeartbeats 1000000 in
theorem isNaN_any (x : Int) (w : World) :
  Calls Try.prog 101 [.int .i64 x].toArray w (Ans (.bool false) w) := by
  refine enter Try.f101 6 Try.func101 fun a hA => ?_
  replace hA := env_sub [(0, .int .i64 x)] hA
  have H := Fr.start (org w)
  refine go_seq fun K1 hK1 => ?_
  refine q_reg [] [(0, .int .i64 x)] ((True) ∧ True) hA H ⟨trivial, trivial⟩ fun a w2 hA H _ => ?_
  refine hK1 _ _ ?_
  refine go_seq fun K3 hK3 => ?_
  refine q_reg [] [(2, .bool (!decide (x = x)))] ((True) ∧ (True) ∧ (True) ∧ (True) ∧ True) hA H ⟨trivial, trivial, trivial, trivial, trivial⟩ fun a w4 hA H _ => ?_
  refine hK3 _ _ ?_
  refine go_ret_ ?_
  refine ret_one 2 (.bool (!decide (x = x))) hA ?_
  exact ans_b' (by simp) H.below

set_option maxRecDepth 100000 in
set_option maxHeartbeats 1000000 in
theorem cmpNaN_any (x : Int) (w : World) :
  Calls Try.prog 127 [.int .i64 x].toArray w (Ans (.bool false) w) := by
  refine enter Try.f127 6 Try.func127 fun a hA => ?_
  replace hA := env_sub [(0, .int .i64 x)] hA
  have H := Fr.start (org w)
  refine go_seq fun K1 hK1 => ?_
  refine q_reg [] [(0, .int .i64 x)] ((True) ∧ True) hA H ⟨trivial, trivial⟩ fun a w2 hA H _ => ?_
  refine hK1 _ _ ?_
  refine go_seq fun K3 hK3 => ?_
  refine q_reg [] [(2, .bool (!decide (x = x)))] ((True) ∧ (True) ∧ (True) ∧ (True) ∧ True) hA H ⟨trivial, trivial, trivial, trivial, trivial⟩ fun a w4 hA H _ => ?_
  refine hK3 _ _ ?_
  refine go_ret_ ?_
  refine ret_one 2 (.bool (!decide (x = x))) hA ?_
  exact ans_b' (by simp) H.below

set_option maxRecDepth 100000 in
set_option maxHeartbeats 1000000 in
theorem less_any (x y : Int) (w : World) :
  Calls Try.prog 100 [.int .i64 x, .int .i64 y].toArray w (Ans (.bool (decide (x < y))) w) := by
  refine enter Try.f100 17 Try.func100 fun a hA => ?_
  replace hA := env_sub [(0, .int .i64 x), (1, .int .i64 y)] hA
  have H := Fr.start (org w)
  refine go_seq fun K1 hK1 => ?_
  refine q_reg [] [(0, .int .i64 x), (1, .int .i64 y)] ((True) ∧ True) hA H ⟨trivial, trivial⟩ fun a w2 hA H _ => ?_
  refine hK1 _ _ ?_
  refine go_seq fun K3 hK3 => ?_
  refine q_reg [(6, .bool false), (9, .bool false)] [(4, .bool ((false && true) || (decide (x < y))))] ((True) ∧ (Callable Try.prog 127 ∧ CallOk Try.prog (On w2) 127 [.int .i64 x].toArray (.bool false)) ∧ (True) ∧ ((false) = true → True) ∧ ((false) = true → Callable Try.prog 127 ∧ CallOk Try.prog (On w2) 127 [.int .i64 y].toArray (.bool false)) ∧ ((false) = true → True) ∧ (True) ∧ (True) ∧ ((false && true) = false → True) ∧ ((false && true) = false → True) ∧ ((false && true) = false → True) ∧ (True) ∧ (True) ∧ True) hA H ⟨trivial, ⟨callable_of, callOk_of fun w hw => by exact cmpNaN_any x w⟩, trivial, fun _ => trivial, fun _ => ⟨callable_of, callOk_of fun w hw => by exact cmpNaN_any y w⟩, fun _ => trivial, trivial, trivial, fun _ => trivial, fun _ => trivial, fun _ => trivial, trivial, trivial, trivial⟩ fun a w4 hA H _ => ?_
  refine hK3 _ _ ?_
  refine go_ret_ ?_
  refine ret_one 4 (.bool ((false && true) || (decide (x < y)))) hA ?_
  exact ans_b' (by simp) H.below

set_option maxRecDepth 100000 in
set_option maxHeartbeats 1000000 in
theorem bs_any (v : Value) (l : List Int) (x : Int) (w : World) (hl : Rd (· < w.heap.size) w v l) (hs : l.length ≤ 1000000000000) :
  Calls Try.prog 77 [v, .int .i64 x].toArray w (Ans (.tuple #[.int .i64 (bsI l x), .bool (hasB l x)]) w) := by
  have hlen := rd_len hl
  refine enter Try.f77 54 Try.func77 fun a hA => ?_
  replace hA := env_sub [(0, v), (1, .int .i64 x)] hA
  have H := Fr.start (org w)
  refine go_seq fun K1 hK1 => ?_
  refine q_reg [] [(0, v), (1, .int .i64 x)] ((True) ∧ (True) ∧ True) hA H ⟨trivial, trivial, trivial⟩ fun a w2 hA H _ => ?_
  refine hK1 _ _ ?_
  refine go_seq fun K3 hK3 => ?_
  refine q_reg [(11, .int .i64 (l.length : Int))] [(0, v), (1, .int .i64 x), (6, .int .i64 (l.length : Int))] ((True) ∧ (LenOk v (l.length : Int)) ∧ (True) ∧ True) hA H ⟨trivial, by exact len_ok (H.arg hl), trivial, trivial⟩ fun a w4 hA H _ => ?_
  refine hK3 _ _ ?_
  refine go_seq fun K5 hK5 => ?_
  refine q_reg [] [(0, v), (1, .int .i64 x), (6, .int .i64 (l.length : Int)), (7, .int .i64 0), (8, .int .i64 (l.length : Int))] ((True) ∧ (True) ∧ (True) ∧ True) hA H ⟨trivial, trivial, trivial, trivial⟩ fun a w6 hA H _ => ?_
  refine hK5 _ _ ?_
  refine go_seq fun K7 hK7 => ?_
  refine go_block 0 ?_
  refine go_loop_ (Int × Int) (fun x_ a W => (fun (p : Int) (q : Int) => EnvOk 54 a (keepEnv [(0, v), (1, .int .i64 x), (6, .int .i64 (l.length : Int)), (7, .int .i64 p), (8, .int .i64 q)]) ∧ (∃ S, Fr (org w) W S []) ∧ 0 ≤ p ∧ p ≤ q ∧ q ≤ (l.length : Int) ∧ bsW l x p q = bsI l x) x_.1 x_.2) (fun x_ => (fun (p : Int) (q : Int) => (q - p).toNat) x_.1 x_.2) (0, (l.length : Int)) ?_ (fun x_ a w9 hI => ?_)
  · (try dsimp only); exact ⟨env_sub _ hA, ⟨_, H⟩, by omega, by omega, by omega, bsI_W l x⟩
  obtain ⟨p, q⟩ := x_
  obtain ⟨hA, ⟨S, H⟩, h1, h2, h3, hb⟩ := hI
  try dsimp only at h1 h2 h3 hb
  refine go_seq fun K10 hK10 => ?_
  refine go_seq fun K11 hK11 => ?_
  refine q_reg [] [(0, v), (1, .int .i64 x), (6, .int .i64 (l.length : Int)), (7, .int .i64 p), (8, .int .i64 q), (15, .bool (decide (p < q)))] ((True) ∧ (True) ∧ (True) ∧ True) hA H ⟨trivial, trivial, trivial, trivial⟩ fun a w12 hA H _ => ?_
  refine hK11 _ _ ?_
  refine go_cond hA (.tmp 15) (decide (p < q)) (fun hb13 => ?_) (fun hb13 => ?_)
  · have hhb13 := of_decide_eq_true hb13
    refine go_skip ?_
    refine hK10 _ _ ?_
    refine go_block 1 ?_
    refine go_seq fun K14 hK14 => ?_
    refine q_reg [(20, .int .u64 ((p + q) / 2))] [(0, v), (1, .int .i64 x), (6, .int .i64 (l.length : Int)), (7, .int .i64 p), (8, .int .i64 q), (9, .int .i64 ((p + q) / 2))] ((True) ∧ (True) ∧ (InR .i64 (p + q)) ∧ (InR .u64 (p + q)) ∧ (0 ≤ (1 : Int) ∧ (p + q).fdiv (2 ^ (min (1 : Int).toNat (IntKind.bits .u64))) = (p + q) / 2) ∧ (InR .i64 ((p + q) / 2)) ∧ (True) ∧ True) hA H ⟨trivial, trivial, ⟨by omega, by omega⟩, ⟨by omega, by omega⟩, shr_one (by decide), ⟨by omega, by omega⟩, trivial, trivial⟩ fun a w15 hA H _ => ?_
    refine hK14 _ _ ?_
    refine go_seq fun K16 hK16 => ?_
    refine q_reg [(25, .int .i64 (l.getD ((p + q) / 2).toNat 0)), (27, .bool (decide ((l.getD ((p + q) / 2).toNat 0) < x)))] [(0, v), (1, .int .i64 x), (6, .int .i64 (l.length : Int)), (7, .int .i64 p), (8, .int .i64 q), (9, .int .i64 ((p + q) / 2)), (27, .bool (decide ((l.getD ((p + q) / 2).toNat 0) < x)))] ((True) ∧ (True) ∧ ((Try.prog.info? 3).isSome = true ∧ IdxOk v ((p + q) / 2)) ∧ (CellOk (On w15) (hdB v) (hdO v + ((p + q) / 2).toNat * 1) (.int .i64 (l.getD ((p + q) / 2).toNat 0))) ∧ (True) ∧ (Callable Try.prog 100 ∧ CallOk Try.prog (On w15) 100 [.int .i64 (l.getD ((p + q) / 2).toNat 0), .int .i64 x].toArray (.bool (decide ((l.getD ((p + q) / 2).toNat 0) < x)))) ∧ True) hA H ⟨trivial, trivial, ⟨by kernel_rfl, by exact idx_ok (H.arg hl) (by omega) (by omega)⟩, by exact cell_flat (i := (p + q) / 2) (H.arg hl) (by omega) (by omega) 0 0, trivial, ⟨callable_of, callOk_of fun w hw => by exact less_any (l.getD ((p + q) / 2).toNat 0) x w⟩, trivial⟩ fun a w17 hA H _ => ?_
    refine hK16 _ _ ?_
    refine go_cond hA (.tmp 27) (decide ((l.getD ((p + q) / 2).toNat 0) < x)) (fun hb18 => ?_) (fun hb18 => ?_)
    · have hhb18 := of_decide_eq_true hb18
      refine q_reg [] [(0, v), (1, .int .i64 x), (6, .int .i64 (l.length : Int)), (7, .int .i64 (((p + q) / 2) + 1)), (8, .int .i64 q)] ((True) ∧ (InR .i64 (((p + q) / 2) + 1)) ∧ (True) ∧ True) hA H ⟨trivial, ⟨by omega, by omega⟩, trivial, trivial⟩ fun a w19 hA H _ => ?_
      refine ⟨(((p + q) / 2) + 1, q), ⟨env_sub _ hA, ⟨_, H⟩, ?_⟩, ?_⟩
      · (try dsimp only); exact ⟨by omega, by omega, by omega, by rw [bsW_T (by omega) hhb18] at hb; exact hb⟩
      · (try dsimp only); omega
    · have hhb18 := of_decide_eq_false hb18
      refine q_reg [] [(0, v), (1, .int .i64 x), (6, .int .i64 (l.length : Int)), (7, .int .i64 p), (8, .int .i64 ((p + q) / 2))] ((True) ∧ (True) ∧ True) hA H ⟨trivial, trivial, trivial⟩ fun a w20 hA H _ => ?_
      refine ⟨(p, (p + q) / 2), ⟨env_sub _ hA, ⟨_, H⟩, ?_⟩, ?_⟩
      · (try dsimp only); exact ⟨by omega, by omega, by omega, by rw [bsW_F (by omega) hhb18] at hb; exact hb⟩
      · (try dsimp only); omega
  · have hhb13 := of_decide_eq_false hb13
    refine go_exit 0 ?_
    refine hK7 _ _ ?_
    refine go_seq fun K21 hK21 => ?_
    refine q_reg [(39, .int .i64 (l.getD p.toNat 0)), (46, .int .i64 (l.getD p.toNat 0)), (47, .bool false), (50, .bool false)] [(4, .int .i64 p), (5, .bool ((decide (p < (l.length : Int))) && ((decide ((l.getD p.toNat 0) = x)) || (false && false))))] ((True) ∧ (True) ∧ (True) ∧ (True) ∧ (True) ∧ ((decide (p < (l.length : Int))) = true → True) ∧ ((decide (p < (l.length : Int))) = true → True) ∧ ((decide (p < (l.length : Int))) = true → (Try.prog.info? 3).isSome = true ∧ IdxOk v p) ∧ ((decide (p < (l.length : Int))) = true → CellOk (On w12) (hdB v) (hdO v + p.toNat * 1) (.int .i64 (l.getD p.toNat 0))) ∧ ((decide (p < (l.length : Int))) = true → True) ∧ ((decide (p < (l.length : Int))) = true → True) ∧ ((decide (p < (l.length : Int))) = true → True) ∧ ((decide (p < (l.length : Int))) = true → (decide ((l.getD p.toNat 0) = x)) = false → True) ∧ ((decide (p < (l.length : Int))) = true → (decide ((l.getD p.toNat 0) = x)) = false → True) ∧ ((decide (p < (l.length : Int))) = true → (decide ((l.getD p.toNat 0) = x)) = false → (Try.prog.info? 3).isSome = true ∧ IdxOk v p) ∧ ((decide (p < (l.length : Int))) = true → (decide ((l.getD p.toNat 0) = x)) = false → CellOk (On w12) (hdB v) (hdO v + p.toNat * 1) (.int .i64 (l.getD p.toNat 0))) ∧ ((decide (p < (l.length : Int))) = true → (decide ((l.getD p.toNat 0) = x)) = false → Callable Try.prog 101 ∧ CallOk Try.prog (On w12) 101 [.int .i64 (l.getD p.toNat 0)].toArray (.bool false)) ∧ ((decide (p < (l.length : Int))) = true → (decide ((l.getD p.toNat 0) = x)) = false → True) ∧ ((decide (p < (l.length : Int))) = true → (decide ((l.getD p.toNat 0) = x)) = false → (false) = true → True) ∧ ((decide (p < (l.length : Int))) = true → (decide ((l.getD p.toNat 0) = x)) = false → (false) = true → Callable Try.prog 101 ∧ CallOk Try.prog (On w12) 101 [.int .i64 x].toArray (.bool false)) ∧ ((decide (p < (l.length : Int))) = true → (decide ((l.getD p.toNat 0) = x)) = false → True) ∧ ((decide (p < (l.length : Int))) = true → True) ∧ (True) ∧ (True) ∧ (True) ∧ True) hA H ⟨trivial, trivial, trivial, trivial, trivial, fun _ => trivial, fun _ => trivial, fun hg0 => by replace hg0 := of_decide_eq_true hg0; exact ⟨by kernel_rfl, by exact idx_ok (H.arg hl) (by omega) (by omega)⟩, fun hg0 => by replace hg0 := of_decide_eq_true hg0; exact by exact cell_flat (i := p) (H.arg hl) (by omega) (by omega) 0 0, fun _ => trivial, fun _ => trivial, fun _ => trivial, fun _ _ => trivial, fun _ _ => trivial, fun hg0 hg1 => by replace hg0 := of_decide_eq_true hg0; replace hg1 := of_decide_eq_false hg1; exact ⟨by kernel_rfl, by exact idx_ok (H.arg hl) (by omega) (by omega)⟩, fun hg0 hg1 => by replace hg0 := of_decide_eq_true hg0; replace hg1 := of_decide_eq_false hg1; exact by exact cell_flat (i := p) (H.arg hl) (by omega) (by omega) 0 0, fun _ _ => ⟨callable_of, callOk_of fun w hw => by exact isNaN_any (l.getD p.toNat 0) w⟩, fun _ _ => trivial, fun _ _ _ => trivial, fun _ _ _ => ⟨callable_of, callOk_of fun w hw => by exact isNaN_any x w⟩, fun _ _ => trivial, fun _ => trivial, trivial, trivial, trivial, trivial⟩ fun a w22 hA H _ => ?_
    refine hK21 _ _ ?_
    refine go_ret_ ?_
    refine ret_two 4 5 (.int .i64 p) (.bool ((decide (p < (l.length : Int))) && ((decide ((l.getD p.toNat 0) = x)) || (false && false)))) hA ?_
    rw [bsW_end (by omega)] at hb
    exact ans_ib (by rw [hb]; refine ⟨rfl, ?_⟩; unfold hasB; simp) H.below

set_option maxRecDepth 100000 in
set_option maxHeartbeats 1000000 in
theorem has_any (v : Value) (l : List Int) (x : Int) (w : World) (hl : Rd (· < w.heap.size) w v l) (hs : l.length ≤ 1000000000000) :
  Calls Try.prog 39 [v, .int .i64 x].toArray w (Ans (.bool (hasB l x)) w) := by
  refine enter Try.f39 14 Try.func39 fun a hA => ?_
  replace hA := env_sub [(0, v), (1, .int .i64 x)] hA
  have H := Fr.start (org w)
  refine go_seq fun K1 hK1 => ?_
  refine q_reg [] [(0, v), (1, .int .i64 x)] ((True) ∧ True) hA H ⟨trivial, trivial⟩ fun a w2 hA H _ => ?_
  refine hK1 _ _ ?_
  refine go_seq fun K3 hK3 => ?_
  refine q_reg [(10, .tuple #[.int .i64 (bsI l x), .bool (hasB l x)])] [(6, .bool (hasB l x))] ((True) ∧ (True) ∧ (Callable Try.prog 77 ∧ CallOk Try.prog (On w2) 77 [v, .int .i64 x].toArray (.tuple #[.int .i64 (bsI l x), .bool (hasB l x)])) ∧ (True) ∧ (True) ∧ (True) ∧ (True) ∧ (True) ∧ True) hA H ⟨trivial, trivial, ⟨callable_of, callOk_of fun w hw => by exact bs_any v l x w ((H.on hw).arg hl) (by omega)⟩, trivial, trivial, trivial, trivial, trivial, trivial⟩ fun a w4 hA H _ => ?_
  refine hK3 _ _ ?_
  refine go_seq fun K5 hK5 => ?_
  refine q_reg [] [(4, .bool (hasB l x))] ((True) ∧ (True) ∧ True) hA H ⟨trivial, trivial, trivial⟩ fun a w6 hA H _ => ?_
  refine hK5 _ _ ?_
  refine go_ret_ ?_
  refine ret_one 4 (.bool (hasB l x)) hA ?_
  exact ans_b' rfl H.below

end Go.Proofs.Ytahonnlgkmimlaa
