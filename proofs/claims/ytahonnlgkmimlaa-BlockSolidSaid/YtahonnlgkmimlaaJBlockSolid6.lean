/-
 Texts joined by program: WalkG1, WalkG2, WalkB1, WalkB2, WalkB3, WalkB4, BlockS.
-/
import Derived.Test.YtahonnlgkmimlaaProg
import Derived.Test.YtahonnlgkmimlaaJBlockSolid5
set_option linter.unusedSimpArgs false
set_option linter.unusedVariables false
set_option maxRecDepth 100000
set_option maxHeartbeats 8000000
namespace Go.Proofs.Ytahonnlgkmimlaa
open Go.RowKit
theorem right_any (n : Int) (ve : Value) (E : List (Int × Int)) (w : World) (hn : -9223372036854775808 ≤ n ∧ n ≤ 9223372036854775807) (hE : Rd (· < w.heap.size) w ve E) :
 Calls Try.prog 20 [.agg #[.int .i64 n, ve]].toArray w (Ans (.int .i64 (rightE n E)) w) := by
 refine enter Try.f20 50 Try.func20 fun a hA => ?_
 replace hA := env_sub [(0, .agg #[.int .i64 n, ve])] hA
 have H := Fr.start (org w)
 refine go_seq fun K1 hK1 => ?_
 refine region_list ?_
 refine list_at 0 ?_; refine q_box 0 1 24 (.tmp 0) (.agg #[.int .i64 n, ve]) [.int .i64 n, ve] [] hA H fun b2 a w3 H hA hG hge_b2 => ?_
 clear hge_b2
 refine q_list 1 1 [] [(1, pv b2)] (TT ∧ True) hA H ⟨tv, tv⟩ fun a w4 hA H hG => ?_
 refine list_end ?_
 refine hK1 _ _ ?_
 refine go_seq fun K5 hK5 => ?_
 refine go_seq fun K6 hK6 => ?_
 refine q_reg [(6, iv n)] [(1, pv b2), (7, .bool (decide (n < 0)))] ((0 < Try.prog.cellsOf 3) ∧ (CellOk (On w4) b2 (0 + 0) (.int .i64 n)) ∧ TT ∧ True) hA H ⟨by decide +kernel, by exact box_cell H 0 rfl 0, tv, tv⟩ fun a w7 hA H hG => ?_
 refine hK6 _ _ ?_
 refine go_cond hA (.tmp 7) (decide (n < 0)) (fun hb8 => ?_) (fun hb8 => ?_)
 · have hhb8 := of_decide_eq_true hb8
   refine go_seq fun K9 hK9 => ?_
   refine q_reg [] [(2, iv 3)] (TT ∧ True) hA H ⟨tv, tv⟩ fun a w10 hA H hG => ?_
   refine hK9 _ _ ?_
   refine go_ret_ ?_
   refine ret_one 2 (.int .i64 3) hA ?_
   exact ans_i' (by unfold rightE; first | rw [if_pos (by omega)] | rw [if_neg (by omega), if_pos (by omega)]) H.below
 have hhb8 := of_decide_eq_false hb8
 refine go_skip ?_
 refine hK5 _ _ ?_
 refine go_seq fun K11 hK11 => ?_
 refine go_seq fun K12 hK12 => ?_
 refine q_reg [(9, iv n), (13, ve), (14, iv (E.length : Int)), (16, iv n)] [(1, pv b2), (19, .bool ((decide ((1024 : Int) < n)) || (decide (1024 - n < (E.length : Int)))))] ((0 < Try.prog.cellsOf 3) ∧ (CellOk (On w7) b2 (0 + 0) (.int .i64 n)) ∧ TT ∧ TT ∧ ((decide ((1024 : Int) < n)) = false → 0 < Try.prog.cellsOf 22) ∧ ((decide ((1024 : Int) < n)) = false → CellOk (On w7) b2 (0 + 1) (ve)) ∧ ((decide ((1024 : Int) < n)) = false → LenOk ve (E.length : Int)) ∧ ((decide ((1024 : Int) < n)) = false → 0 < Try.prog.cellsOf 3) ∧ ((decide ((1024 : Int) < n)) = false → CellOk (On w7) b2 (0 + 0) (.int .i64 n)) ∧ ((decide ((1024 : Int) < n)) = false → InR .i64 (1024 - n)) ∧ ((decide ((1024 : Int) < n)) = false → True) ∧ TT ∧ True) hA H ⟨by decide +kernel, by exact box_cell H 0 rfl 0, tv, tv, fun _ => by decide +kernel, fun _ => by exact box_cell H 0 rfl 1, fun _ => by exact len_ok (H.arg hE), fun _ => by decide +kernel, fun _ => by exact box_cell H 0 rfl 0, fun hg0 => by replace hg0 := of_decide_eq_false hg0; exact ⟨by omega, by omega⟩, fun _ => trivial, tv, tv⟩ fun a w13 hA H hG => ?_
 refine hK12 _ _ ?_
 refine go_cond hA (.tmp 19) ((decide ((1024 : Int) < n)) || (decide (1024 - n < (E.length : Int)))) (fun hb14 => ?_) (fun hb14 => ?_)
 · have hhb14 := (oT hb14).imp (fun h => of_decide_eq_true h) (fun h => of_decide_eq_true h)
   refine go_seq fun K15 hK15 => ?_
   refine q_reg [] [(2, iv 2)] (TT ∧ True) hA H ⟨tv, tv⟩ fun a w16 hA H hG => ?_
   refine hK15 _ _ ?_
   refine go_ret_ ?_
   refine ret_one 2 (.int .i64 2) hA ?_
   exact ans_i' (by unfold rightE; first | rw [if_pos (by omega)] | rw [if_neg (by omega), if_pos (by omega)]) H.below
 have hhb14 := (⟨of_decide_eq_false ((oF hb14).1), of_decide_eq_false ((oF hb14).2)⟩ : _ ∧ _)
 refine go_skip ?_
 refine hK11 _ _ ?_
 refine go_seq fun K17 hK17 => ?_
 refine go_seq fun K18 hK18 => ?_
 refine q_reg [(21, ve), (22, iv (E.length : Int))] [(1, pv b2), (21, ve), (22, iv (E.length : Int)), (23, iv 0)] ((0 < Try.prog.cellsOf 22) ∧ (CellOk (On w13) b2 (0 + 1) (ve)) ∧ (LenOk ve (E.length : Int)) ∧ TT ∧ True) hA H ⟨by decide +kernel, by exact box_cell H 0 rfl 1, by exact len_ok (H.arg hE), tv, tv⟩ fun a w19 hA H hG => ?_
 refine hK18 _ _ ?_
 refine go_block 0 ?_
 refine go_loop_ (Int) (fun x_ a W => (fun (i : Int) => EnvOk 50 a (keepEnv [(1, pv b2), (21, ve), (22, iv (E.length : Int)), (23, iv i)]) ∧ (∃ S, Fr (org w) W S [.box b2 24 [.int .i64 n, ve]]) ∧ 0 ≤ i ∧ ∀ j : Nat, (j : Int) < i → okE n (E.getD j (0, 0))) x_) (fun x_ => (fun (i : Int) => ((E.length : Int) - i).toNat) x_) (0) ?_ (fun i a w21 hI => ?_)
 · (try dsimp only); exact ⟨env_sub _ hA, ⟨_, H⟩, by omega, fun j hj => by omega⟩
 obtain ⟨hA, ⟨S, H⟩, h0, hok⟩ := hI
 try dsimp only at h0 hok
 refine go_seq fun K22 hK22 => ?_
 refine q_reg [] [(1, pv b2), (21, ve), (22, iv (E.length : Int)), (23, iv i), (24, .bool (decide (i < (E.length : Int))))] (TT ∧ True) hA H ⟨tv, tv⟩ fun a w23 hA H hG => ?_
 refine hK22 _ _ ?_
 refine go_seq fun K24 hK24 => ?_
 refine go_cond hA (.tmp 24) (decide (i < (E.length : Int))) (fun hb25 => ?_) (fun hb25 => ?_)
 · have hhb25 := of_decide_eq_true hb25
   refine go_skip ?_
   refine hK24 _ _ ?_
   refine go_seq fun K26 hK26 => ?_
   refine go_block 1 ?_
   refine go_seq fun K27 hK27 => ?_
   refine region_list ?_
   refine q_list 0 2 [(26, .agg #[.int .i64 ((E.getD i.toNat (0, 0)).1), .int .i64 ((E.getD i.toNat (0, 0)).2)])] [(1, pv b2), (21, ve), (22, iv (E.length : Int)), (23, iv i), (26, .agg #[.int .i64 ((E.getD i.toNat (0, 0)).1), .int .i64 ((E.getD i.toNat (0, 0)).2)])] (((Try.prog.info? 99).isSome = true ∧ IdxOk ve i) ∧ ((Try.prog.info? 99).isSome = true ∧ RowOk (On w23) (hdB ve) (hdO ve + i.toNat * 2) (Try.prog.cellsOf 99) #[.int .i64 ((E.getD i.toNat (0, 0)).1), .int .i64 ((E.getD i.toNat (0, 0)).2)]) ∧ True) hA H ⟨⟨by kernel_rfl, by exact idx_ok (H.arg hE) (by omega) (by omega)⟩, ⟨by kernel_rfl, by exact row_flat (i := i) (H.arg hE) (by omega) (by omega) (0, 0)⟩, tv⟩ fun a w28 hA H hG => ?_
   refine list_at 2 ?_; refine q_alloc 2 4 99 [.int .i64 0, .int .i64 0] [(1, pv b2), (21, ve), (22, iv (E.length : Int)), (23, iv i), (26, .agg #[.int .i64 ((E.getD i.toNat (0, 0)).1), .int .i64 ((E.getD i.toNat (0, 0)).2)])] hA H fun b29 a w30 H hA hG hge_b29 => ?_
   clear hge_b29
   refine list_at 3 ?_; refine q_store 3 99 (.tmp 4) (.tmp 26) 0 b29 (0) 99 [.int .i64 0, .int .i64 0] [.int .i64 ((E.getD i.toNat (0, 0)).1), .int .i64 ((E.getD i.toNat (0, 0)).2)] [.int .i64 ((E.getD i.toNat (0, 0)).1), .int .i64 ((E.getD i.toNat (0, 0)).2)] (.agg #[.int .i64 ((E.getD i.toNat (0, 0)).1), .int .i64 ((E.getD i.toNat (0, 0)).2)]) [(1, pv b2), (4, pv b29), (21, ve), (22, iv (E.length : Int)), (23, iv i)] hA H rfl rfl (Nat.le_of_ble_eq_true (by kernel_rfl)) rfl (fun v hv => by simp only [List.mem_cons, List.not_mem_nil, or_false] at hv; rcases hv with rfl | rfl; exact rfl; exact rfl) fun a w31 H hA hG => ?_
   replace H : Fr _ _ _ [.box b29 99 [.int .i64 ((E.getD i.toNat (0, 0)).1), .int .i64 ((E.getD i.toNat (0, 0)).2)], .box b2 24 [.int .i64 n, ve]] := H
   refine list_end ?_
   refine hK27 _ _ ?_
   refine go_seq fun K32 hK32 => ?_
   refine q_reg [(28, iv ((E.getD i.toNat (0, 0)).1)), (32, iv ((E.getD i.toNat (0, 0)).1)), (34, iv n), (39, iv ((E.getD i.toNat (0, 0)).2)), (44, iv ((E.getD i.toNat (0, 0)).2)), (46, iv n)] [(1, pv b2), (21, ve), (22, iv (E.length : Int)), (23, iv i), (48, .bool ((((decide ((E.getD i.toNat (0, 0)).1 < 0)) || (decide (n ≤ (E.getD i.toNat (0, 0)).1))) || (decide ((E.getD i.toNat (0, 0)).2 < 0))) || (decide (n ≤ (E.getD i.toNat (0, 0)).2))))] ((0 < Try.prog.cellsOf 3) ∧ (CellOk (On w31) b29 (0 + 0) (.int .i64 ((E.getD i.toNat (0, 0)).1))) ∧ TT ∧ TT ∧ ((decide ((E.getD i.toNat (0, 0)).1 < 0)) = false → 0 < Try.prog.cellsOf 3) ∧ ((decide ((E.getD i.toNat (0, 0)).1 < 0)) = false → CellOk (On w31) b29 (0 + 0) (.int .i64 ((E.getD i.toNat (0, 0)).1))) ∧ ((decide ((E.getD i.toNat (0, 0)).1 < 0)) = false → 0 < Try.prog.cellsOf 3) ∧ ((decide ((E.getD i.toNat (0, 0)).1 < 0)) = false → CellOk (On w31) b2 (0 + 0) (.int .i64 n)) ∧ ((decide ((E.getD i.toNat (0, 0)).1 < 0)) = false → True) ∧ TT ∧ TT ∧ (((decide ((E.getD i.toNat (0, 0)).1 < 0)) || (decide (n ≤ (E.getD i.toNat (0, 0)).1))) = false → 0 < Try.prog.cellsOf 3) ∧ (((decide ((E.getD i.toNat (0, 0)).1 < 0)) || (decide (n ≤ (E.getD i.toNat (0, 0)).1))) = false → CellOk (On w31) b29 (0 + 1) (.int .i64 ((E.getD i.toNat (0, 0)).2))) ∧ (((decide ((E.getD i.toNat (0, 0)).1 < 0)) || (decide (n ≤ (E.getD i.toNat (0, 0)).1))) = false → True) ∧ TT ∧ TT ∧ ((((decide ((E.getD i.toNat (0, 0)).1 < 0)) || (decide (n ≤ (E.getD i.toNat (0, 0)).1))) || (decide ((E.getD i.toNat (0, 0)).2 < 0))) = false → 0 < Try.prog.cellsOf 3) ∧ ((((decide ((E.getD i.toNat (0, 0)).1 < 0)) || (decide (n ≤ (E.getD i.toNat (0, 0)).1))) || (decide ((E.getD i.toNat (0, 0)).2 < 0))) = false → CellOk (On w31) b29 (0 + 1) (.int .i64 ((E.getD i.toNat (0, 0)).2))) ∧ ((((decide ((E.getD i.toNat (0, 0)).1 < 0)) || (decide (n ≤ (E.getD i.toNat (0, 0)).1))) || (decide ((E.getD i.toNat (0, 0)).2 < 0))) = false → 0 < Try.prog.cellsOf 3) ∧ ((((decide ((E.getD i.toNat (0, 0)).1 < 0)) || (decide (n ≤ (E.getD i.toNat (0, 0)).1))) || (decide ((E.getD i.toNat (0, 0)).2 < 0))) = false → CellOk (On w31) b2 (0 + 0) (.int .i64 n)) ∧ ((((decide ((E.getD i.toNat (0, 0)).1 < 0)) || (decide (n ≤ (E.getD i.toNat (0, 0)).1))) || (decide ((E.getD i.toNat (0, 0)).2 < 0))) = false → True) ∧ TT ∧ True) hA H ⟨by decide +kernel, by exact box_cell H 0 rfl 0, tv, tv, fun _ => by decide +kernel, fun _ => by exact box_cell H 0 rfl 0, fun _ => by decide +kernel, fun _ => by exact box_cell H 1 rfl 0, fun _ => trivial, tv, tv, fun _ => by decide +kernel, fun _ => by exact box_cell H 0 rfl 1, fun _ => trivial, tv, tv, fun _ => by decide +kernel, fun _ => by exact box_cell H 0 rfl 1, fun _ => by decide +kernel, fun _ => by exact box_cell H 1 rfl 0, fun _ => trivial, tv, tv⟩ fun a w33 hA H hG => ?_
   refine hK32 _ _ ?_
   refine go_cond hA (.tmp 48) ((((decide ((E.getD i.toNat (0, 0)).1 < 0)) || (decide (n ≤ (E.getD i.toNat (0, 0)).1))) || (decide ((E.getD i.toNat (0, 0)).2 < 0))) || (decide (n ≤ (E.getD i.toNat (0, 0)).2))) (fun hb34 => ?_) (fun hb34 => ?_)
   · have hhb34 := (oT hb34).imp (fun h => (oT h).imp (fun h => (oT h).imp (fun h => of_decide_eq_true h) (fun h => of_decide_eq_true h)) (fun h => of_decide_eq_true h)) (fun h => of_decide_eq_true h)
     refine go_seq fun K35 hK35 => ?_
     refine q_reg [] [(2, iv 3)] (TT ∧ True) hA H ⟨tv, tv⟩ fun a w36 hA H hG => ?_
     refine hK35 _ _ ?_
     refine go_ret_ ?_
     refine ret_one 2 (.int .i64 3) hA ?_
     exact ans_i' ((rightE_bad (by omega) (by omega) (by omega) h0 (by omega) (by unfold okE; have := hhb34; omega)).symm) H.below
   have hhb34 := (⟨(⟨(⟨of_decide_eq_false ((oF ((oF ((oF hb34).1)).1)).1), of_decide_eq_false ((oF ((oF ((oF hb34).1)).1)).2)⟩ : _ ∧ _), of_decide_eq_false ((oF ((oF hb34).1)).2)⟩ : _ ∧ _), of_decide_eq_false ((oF hb34).2)⟩ : _ ∧ _)
   refine go_skip ?_
   refine hK26 _ _ ?_
   refine q_reg [] [(1, pv b2), (21, ve), (22, iv (E.length : Int)), (23, iv (i + 1))] ((InR .i64 (i + 1)) ∧ TT ∧ True) hA H ⟨⟨by omega, by omega⟩, tv, tv⟩ fun a w37 hA H hG => ?_
   replace H := H.drop 0
   refine ⟨(i + 1), ⟨env_sub _ hA, ⟨_, H⟩, ?_⟩, ?_⟩
   · (try dsimp only); exact ⟨by omega, fun j hj => if e : (j : Int) = i then (by rw [show j = i.toNat by omega]; unfold okE; have := hhb34; omega) else hok j (by omega)⟩
   (try dsimp only); omega
 have hhb25 := of_decide_eq_false hb25
 refine go_exit 0 ?_
 refine hK17 _ _ ?_
 refine go_seq fun K38 hK38 => ?_
 refine q_reg [] [(2, iv 0)] (TT ∧ True) hA H ⟨tv, tv⟩ fun a w39 hA H hG => ?_
 refine hK38 _ _ ?_
 refine go_ret_ ?_
 refine ret_one 2 (.int .i64 0) hA ?_
 exact ans_i' ((rightE_ok (by omega) (by omega) (by omega) (by omega) hok).symm) H.below
theorem rising_any (v : Value) (l : List Int) (n : Int) (w : World) (hl : Rd (· < w.heap.size) w v l) :
 Calls Try.prog 73 [v, .int .i64 n].toArray w (Ans (.bool (decide (risesP l n))) w) := by
 have hlen := rd_len hl
 refine enter Try.f73 35 Try.func73 fun a hA => ?_
 replace hA := env_sub [(0, v), (1, iv n)] hA
 have H := Fr.start (org w)
 refine go_seq fun K1 hK1 => ?_
 refine q_reg [] [(0, v), (1, iv n)] (TT ∧ True) hA H ⟨tv, tv⟩ fun a w2 hA H hG => ?_
 refine hK1 _ _ ?_
 refine go_seq fun K3 hK3 => ?_
 refine go_seq fun K4 hK4 => ?_
 refine q_reg [(8, iv (l.length : Int))] [(0, v), (1, iv n), (7, v), (8, iv (l.length : Int)), (9, iv 0)] (TT ∧ (LenOk v (l.length : Int)) ∧ TT ∧ True) hA H ⟨tv, by exact len_ok (H.arg hl), tv, tv⟩ fun a w5 hA H hG => ?_
 refine hK4 _ _ ?_
 refine go_block 0 ?_
 refine go_loop_ (Int) (fun x_ a W => (fun (i : Int) => EnvOk 35 a (keepEnv [(0, v), (1, iv n), (7, v), (8, iv (l.length : Int)), (9, iv i)]) ∧ (∃ S, Fr (org w) W S []) ∧ 0 ≤ i ∧ ∀ j : Nat, (j : Int) < i → 0 ≤ l.getD j 0 ∧ l.getD j 0 < n ∧ (0 < j → l.getD (j - 1) 0 < l.getD j 0)) x_) (fun x_ => (fun (i : Int) => ((l.length : Int) - i).toNat) x_) (0) ?_ (fun i a w7 hI => ?_)
 · (try dsimp only); exact ⟨env_sub _ hA, ⟨_, H⟩, by omega, fun j hj => by omega⟩
 obtain ⟨hA, ⟨S, H⟩, h0, hok⟩ := hI
 try dsimp only at h0 hok
 refine go_seq fun K8 hK8 => ?_
 refine q_reg [] [(0, v), (1, iv n), (7, v), (8, iv (l.length : Int)), (9, iv i), (10, .bool (decide (i < (l.length : Int))))] (TT ∧ True) hA H ⟨tv, tv⟩ fun a w9 hA H hG => ?_
 refine hK8 _ _ ?_
 refine go_seq fun K10 hK10 => ?_
 refine go_cond hA (.tmp 10) (decide (i < (l.length : Int))) (fun hb11 => ?_) (fun hb11 => ?_)
 · have hhb11 := of_decide_eq_true hb11
   refine go_skip ?_
   refine hK10 _ _ ?_
   refine go_seq fun K12 hK12 => ?_
   refine go_block 1 ?_
   refine go_seq fun K13 hK13 => ?_
   refine q_reg [(13, iv (l.getD i.toNat 0))] [(0, v), (1, iv n), (5, iv i), (6, iv (l.getD i.toNat 0)), (7, v), (8, iv (l.length : Int)), (9, iv i)] (TT ∧ ((Try.prog.info? 3).isSome = true ∧ IdxOk v i) ∧ (CellOk (On w9) (hdB v) (hdO v + i.toNat * 1) (.int .i64 (l.getD i.toNat 0))) ∧ TT ∧ TT ∧ True) hA H ⟨tv, ⟨by kernel_rfl, by exact idx_ok (H.arg hl) (by omega) (by omega)⟩, by exact cell_flat (i := i) (H.arg hl) (by omega) (by omega) 0 0, tv, tv, tv⟩ fun a w14 hA H hG => ?_
   refine hK13 _ _ ?_
   refine go_seq fun K15 hK15 => ?_
   refine q_reg [(30, iv (l.getD (i - 1).toNat 0))] [(0, v), (1, iv n), (7, v), (8, iv (l.length : Int)), (9, iv i), (33, .bool (((decide ((l.getD i.toNat 0) < 0)) || (decide (n ≤ (l.getD i.toNat 0)))) || ((decide ((0 : Int) < i)) && (decide ((l.getD i.toNat 0) ≤ (l.getD (i - 1).toNat 0))))))] (TT ∧ TT ∧ TT ∧ ((decide ((l.getD i.toNat 0) < 0)) = false → True) ∧ ((decide ((l.getD i.toNat 0) < 0)) = false → True) ∧ ((decide ((l.getD i.toNat 0) < 0)) = false → True) ∧ TT ∧ TT ∧ (((decide ((l.getD i.toNat 0) < 0)) || (decide (n ≤ (l.getD i.toNat 0)))) = false → True) ∧ (((decide ((l.getD i.toNat 0) < 0)) || (decide (n ≤ (l.getD i.toNat 0)))) = false → True) ∧ (((decide ((l.getD i.toNat 0) < 0)) || (decide (n ≤ (l.getD i.toNat 0)))) = false → True) ∧ (((decide ((l.getD i.toNat 0) < 0)) || (decide (n ≤ (l.getD i.toNat 0)))) = false → (decide ((0 : Int) < i)) = true → True) ∧ (((decide ((l.getD i.toNat 0) < 0)) || (decide (n ≤ (l.getD i.toNat 0)))) = false → (decide ((0 : Int) < i)) = true → True) ∧ (((decide ((l.getD i.toNat 0) < 0)) || (decide (n ≤ (l.getD i.toNat 0)))) = false → (decide ((0 : Int) < i)) = true → True) ∧ (((decide ((l.getD i.toNat 0) < 0)) || (decide (n ≤ (l.getD i.toNat 0)))) = false → (decide ((0 : Int) < i)) = true → InR .i64 (i - 1)) ∧ (((decide ((l.getD i.toNat 0) < 0)) || (decide (n ≤ (l.getD i.toNat 0)))) = false → (decide ((0 : Int) < i)) = true → (Try.prog.info? 3).isSome = true ∧ IdxOk v (i - 1)) ∧ (((decide ((l.getD i.toNat 0) < 0)) || (decide (n ≤ (l.getD i.toNat 0)))) = false → (decide ((0 : Int) < i)) = true → CellOk (On w14) (hdB v) (hdO v + (i - 1).toNat * 1) (.int .i64 (l.getD (i - 1).toNat 0))) ∧ (((decide ((l.getD i.toNat 0) < 0)) || (decide (n ≤ (l.getD i.toNat 0)))) = false → (decide ((0 : Int) < i)) = true → True) ∧ (((decide ((l.getD i.toNat 0) < 0)) || (decide (n ≤ (l.getD i.toNat 0)))) = false → True) ∧ TT ∧ True) hA H ⟨tv, tv, tv, fun _ => trivial, fun _ => trivial, fun _ => trivial, tv, tv, fun _ => trivial, fun _ => trivial, fun _ => trivial, fun _ _ => trivial, fun _ _ => trivial, fun _ _ => trivial, fun hg0 hg1 => by replace hg0 := (⟨of_decide_eq_false ((oF hg0).1), of_decide_eq_false ((oF hg0).2)⟩ : _ ∧ _); replace hg1 := of_decide_eq_true hg1; exact ⟨by omega, by omega⟩, fun hg0 hg1 => by replace hg0 := (⟨of_decide_eq_false ((oF hg0).1), of_decide_eq_false ((oF hg0).2)⟩ : _ ∧ _); replace hg1 := of_decide_eq_true hg1; exact ⟨by kernel_rfl, by exact idx_ok (H.arg hl) (by omega) (by omega)⟩, fun hg0 hg1 => by replace hg0 := (⟨of_decide_eq_false ((oF hg0).1), of_decide_eq_false ((oF hg0).2)⟩ : _ ∧ _); replace hg1 := of_decide_eq_true hg1; exact by exact cell_flat (i := i - 1) (H.arg hl) (by omega) (by omega) 0 0, fun _ _ => trivial, fun _ => trivial, tv, tv⟩ fun a w16 hA H hG => ?_
   refine hK15 _ _ ?_
   refine go_cond hA (.tmp 33) (((decide ((l.getD i.toNat 0) < 0)) || (decide (n ≤ (l.getD i.toNat 0)))) || ((decide ((0 : Int) < i)) && (decide ((l.getD i.toNat 0) ≤ (l.getD (i - 1).toNat 0))))) (fun hb17 => ?_) (fun hb17 => ?_)
   · have hhb17 := (oT hb17).imp (fun h => (oT h).imp (fun h => of_decide_eq_true h) (fun h => of_decide_eq_true h)) (fun h => (⟨of_decide_eq_true ((aT h).1), of_decide_eq_true ((aT h).2)⟩ : _ ∧ _))
     refine go_seq fun K18 hK18 => ?_
     refine q_reg [] [(4, .bool false)] (TT ∧ True) hA H ⟨tv, tv⟩ fun a w19 hA H hG => ?_
     refine hK18 _ _ ?_
     refine go_ret_ ?_
     refine ret_one 4 (.bool false) hA ?_
     exact ans_b' ((decide_eq_false (fun q => by have := q i.toNat (by omega); have z := hhb17; rw [show (i - 1).toNat = i.toNat - 1 by omega] at z; omega)).symm) H.below
   have hhb17 := (⟨(⟨of_decide_eq_false ((oF ((oF hb17).1)).1), of_decide_eq_false ((oF ((oF hb17).1)).2)⟩ : _ ∧ _), (aF ((oF hb17).2)).imp (fun h => of_decide_eq_false h) (fun h => of_decide_eq_false h)⟩ : _ ∧ _)
   refine go_skip ?_
   refine hK12 _ _ ?_
   refine q_reg [] [(0, v), (1, iv n), (7, v), (8, iv (l.length : Int)), (9, iv (i + 1))] ((InR .i64 (i + 1)) ∧ TT ∧ True) hA H ⟨⟨by omega, by omega⟩, tv, tv⟩ fun a w20 hA H hG => ?_
   refine ⟨(i + 1), ⟨env_sub _ hA, ⟨_, H⟩, ?_⟩, ?_⟩
   · (try dsimp only); exact ⟨by omega, fun j hj => if e : (j : Int) = i then (by have q := hhb17; rw [show j = i.toNat by omega]; rw [show (i - 1).toNat = i.toNat - 1 by omega] at q; omega) else hok j (by omega)⟩
   (try dsimp only); omega
 have hhb11 := of_decide_eq_false hb11
 refine go_exit 0 ?_
 refine hK3 _ _ ?_
 refine go_seq fun K21 hK21 => ?_
 refine q_reg [] [(4, .bool true)] (TT ∧ True) hA H ⟨tv, tv⟩ fun a w22 hA H hG => ?_
 refine hK21 _ _ ?_
 refine go_ret_ ?_
 refine ret_one 4 (.bool true) hA ?_
 exact ans_b' ((decide_eq_true (fun j hj => hok j (by omega))).symm) H.below
theorem isNaN_any (x : Int) (w : World) :
 Calls Try.prog 101 [.int .i64 x].toArray w (Ans (.bool false) w) := by
 refine enter Try.f101 6 Try.func101 fun a hA => ?_
 replace hA := env_sub [(0, iv x)] hA
 have H := Fr.start (org w)
 refine go_seq fun K1 hK1 => ?_
 refine q_reg [] [(0, iv x)] (TT ∧ True) hA H ⟨tv, tv⟩ fun a w2 hA H hG => ?_
 refine hK1 _ _ ?_
 refine go_seq fun K3 hK3 => ?_
 refine q_reg [] [(2, .bool (!decide (x = x)))] (TT ∧ TT ∧ TT ∧ TT ∧ True) hA H ⟨tv, tv, tv, tv, tv⟩ fun a w4 hA H hG => ?_
 refine hK3 _ _ ?_
 refine go_ret_ ?_
 refine ret_one 2 (.bool (!decide (x = x))) hA ?_
 exact ans_b' (by simp) H.below
theorem cmpNaN_any (x : Int) (w : World) :
 Calls Try.prog 127 [.int .i64 x].toArray w (Ans (.bool false) w) := by
 refine enter Try.f127 6 Try.func127 fun a hA => ?_
 replace hA := env_sub [(0, iv x)] hA
 have H := Fr.start (org w)
 refine go_seq fun K1 hK1 => ?_
 refine q_reg [] [(0, iv x)] (TT ∧ True) hA H ⟨tv, tv⟩ fun a w2 hA H hG => ?_
 refine hK1 _ _ ?_
 refine go_seq fun K3 hK3 => ?_
 refine q_reg [] [(2, .bool (!decide (x = x)))] (TT ∧ TT ∧ TT ∧ TT ∧ True) hA H ⟨tv, tv, tv, tv, tv⟩ fun a w4 hA H hG => ?_
 refine hK3 _ _ ?_
 refine go_ret_ ?_
 refine ret_one 2 (.bool (!decide (x = x))) hA ?_
 exact ans_b' (by simp) H.below
theorem less_any (x y : Int) (w : World) :
 Calls Try.prog 100 [.int .i64 x, .int .i64 y].toArray w (Ans (.bool (decide (x < y))) w) := by
 refine enter Try.f100 17 Try.func100 fun a hA => ?_
 replace hA := env_sub [(0, iv x), (1, iv y)] hA
 have H := Fr.start (org w)
 refine go_seq fun K1 hK1 => ?_
 refine q_reg [] [(0, iv x), (1, iv y)] (TT ∧ True) hA H ⟨tv, tv⟩ fun a w2 hA H hG => ?_
 refine hK1 _ _ ?_
 refine go_seq fun K3 hK3 => ?_
 refine q_reg [(6, .bool false), (9, .bool false)] [(4, .bool ((false && true) || (decide (x < y))))] (TT ∧ (Callable Try.prog 127 ∧ CallOk Try.prog (On w2) 127 [.int .i64 x].toArray (.bool false)) ∧ TT ∧ ((false) = true → True) ∧ ((false) = true → Callable Try.prog 127 ∧ CallOk Try.prog (On w2) 127 [.int .i64 y].toArray (.bool false)) ∧ ((false) = true → True) ∧ TT ∧ TT ∧ ((false && true) = false → True) ∧ ((false && true) = false → True) ∧ ((false && true) = false → True) ∧ TT ∧ TT ∧ True) hA H ⟨tv, ⟨callable_of, callOk_of fun w hw => by exact cmpNaN_any x w⟩, tv, fun _ => trivial, fun _ => ⟨callable_of, callOk_of fun w hw => by exact cmpNaN_any y w⟩, fun _ => trivial, tv, tv, fun _ => trivial, fun _ => trivial, fun _ => trivial, tv, tv, tv⟩ fun a w4 hA H hG => ?_
 refine hK3 _ _ ?_
 refine go_ret_ ?_
 refine ret_one 4 (.bool ((false && true) || (decide (x < y)))) hA ?_
 exact ans_b' (by simp) H.below
theorem bs_any (v : Value) (l : List Int) (x : Int) (w : World) (hl : Rd (· < w.heap.size) w v l) (hs : l.length ≤ 1000000000000) :
 Calls Try.prog 77 [v, .int .i64 x].toArray w (Ans (.tuple #[.int .i64 (bsI l x), .bool (hasB l x)]) w) := by
 have hlen := rd_len hl
 refine enter Try.f77 54 Try.func77 fun a hA => ?_
 replace hA := env_sub [(0, v), (1, iv x)] hA
 have H := Fr.start (org w)
 refine go_seq fun K1 hK1 => ?_
 refine q_reg [] [(0, v), (1, iv x)] (TT ∧ TT ∧ True) hA H ⟨tv, tv, tv⟩ fun a w2 hA H hG => ?_
 refine hK1 _ _ ?_
 refine go_seq fun K3 hK3 => ?_
 refine q_reg [(11, iv (l.length : Int))] [(0, v), (1, iv x), (6, iv (l.length : Int))] (TT ∧ (LenOk v (l.length : Int)) ∧ TT ∧ True) hA H ⟨tv, by exact len_ok (H.arg hl), tv, tv⟩ fun a w4 hA H hG => ?_
 refine hK3 _ _ ?_
 refine go_seq fun K5 hK5 => ?_
 refine q_reg [] [(0, v), (1, iv x), (6, iv (l.length : Int)), (7, iv 0), (8, iv (l.length : Int))] (TT ∧ TT ∧ TT ∧ True) hA H ⟨tv, tv, tv, tv⟩ fun a w6 hA H hG => ?_
 refine hK5 _ _ ?_
 refine go_seq fun K7 hK7 => ?_
 refine go_block 0 ?_
 refine go_loop_ (Int × Int) (fun x_ a W => (fun (p : Int) (q : Int) => EnvOk 54 a (keepEnv [(0, v), (1, iv x), (6, iv (l.length : Int)), (7, iv p), (8, iv q)]) ∧ (∃ S, Fr (org w) W S []) ∧ 0 ≤ p ∧ p ≤ q ∧ q ≤ (l.length : Int) ∧ bsW l x p q = bsI l x) x_.1 x_.2) (fun x_ => (fun (p : Int) (q : Int) => (q - p).toNat) x_.1 x_.2) (0, (l.length : Int)) ?_ (fun x_ a w9 hI => ?_)
 · (try dsimp only); exact ⟨env_sub _ hA, ⟨_, H⟩, by omega, by omega, by omega, bsI_W l x⟩
 obtain ⟨p, q⟩ := x_
 obtain ⟨hA, ⟨S, H⟩, h1, h2, h3, hb⟩ := hI
 try dsimp only at h1 h2 h3 hb
 replace H : Fr _ _ _ [] := H
 refine go_seq fun K10 hK10 => ?_
 refine go_seq fun K11 hK11 => ?_
 refine q_reg [] [(0, v), (1, iv x), (6, iv (l.length : Int)), (7, iv p), (8, iv q), (15, .bool (decide (p < q)))] (TT ∧ TT ∧ TT ∧ True) hA H ⟨tv, tv, tv, tv⟩ fun a w12 hA H hG => ?_
 refine hK11 _ _ ?_
 refine go_cond hA (.tmp 15) (decide (p < q)) (fun hb13 => ?_) (fun hb13 => ?_)
 · have hhb13 := of_decide_eq_true hb13
   refine go_skip ?_
   refine hK10 _ _ ?_
   refine go_block 1 ?_
   refine go_seq fun K14 hK14 => ?_
   refine q_reg [(20, .int .u64 ((p + q) / 2))] [(0, v), (1, iv x), (6, iv (l.length : Int)), (7, iv p), (8, iv q), (9, iv ((p + q) / 2))] (TT ∧ TT ∧ (InR .i64 (p + q)) ∧ (InR .u64 (p + q)) ∧ (0 ≤ (1 : Int) ∧ (p + q).fdiv (2 ^ (min (1 : Int).toNat (IntKind.bits .u64))) = (p + q) / 2) ∧ (InR .i64 ((p + q) / 2)) ∧ TT ∧ True) hA H ⟨tv, tv, ⟨by omega, by omega⟩, ⟨by omega, by omega⟩, shr_one (by decide), ⟨by omega, by omega⟩, tv, tv⟩ fun a w15 hA H hG => ?_
   refine hK14 _ _ ?_
   refine go_seq fun K16 hK16 => ?_
   refine q_reg [(25, iv (l.getD ((p + q) / 2).toNat 0)), (27, .bool (decide ((l.getD ((p + q) / 2).toNat 0) < x)))] [(0, v), (1, iv x), (6, iv (l.length : Int)), (7, iv p), (8, iv q), (9, iv ((p + q) / 2)), (27, .bool (decide ((l.getD ((p + q) / 2).toNat 0) < x)))] (TT ∧ TT ∧ ((Try.prog.info? 3).isSome = true ∧ IdxOk v ((p + q) / 2)) ∧ (CellOk (On w15) (hdB v) (hdO v + ((p + q) / 2).toNat * 1) (.int .i64 (l.getD ((p + q) / 2).toNat 0))) ∧ TT ∧ (Callable Try.prog 100 ∧ CallOk Try.prog (On w15) 100 [.int .i64 (l.getD ((p + q) / 2).toNat 0), .int .i64 x].toArray (.bool (decide ((l.getD ((p + q) / 2).toNat 0) < x)))) ∧ True) hA H ⟨tv, tv, ⟨by kernel_rfl, by exact idx_ok (H.arg hl) (by omega) (by omega)⟩, by exact cell_flat (i := (p + q) / 2) (H.arg hl) (by omega) (by omega) 0 0, tv, ⟨callable_of, callOk_of fun w hw => by exact less_any (l.getD ((p + q) / 2).toNat 0) x w⟩, tv⟩ fun a w17 hA H hG => ?_
   refine hK16 _ _ ?_
   refine go_cond hA (.tmp 27) (decide ((l.getD ((p + q) / 2).toNat 0) < x)) (fun hb18 => ?_) (fun hb18 => ?_)
   · have hhb18 := of_decide_eq_true hb18
     refine q_reg [] [(0, v), (1, iv x), (6, iv (l.length : Int)), (7, iv (((p + q) / 2) + 1)), (8, iv q)] (TT ∧ (InR .i64 (((p + q) / 2) + 1)) ∧ TT ∧ True) hA H ⟨tv, ⟨by omega, by omega⟩, tv, tv⟩ fun a w19 hA H hG => ?_
     refine ⟨(((p + q) / 2) + 1, q), ⟨env_sub _ hA, ⟨_, H⟩, ?_⟩, ?_⟩
     · (try dsimp only); exact ⟨by omega, by omega, by omega, by rw [bsW_T (by omega) hhb18] at hb; exact hb⟩
     (try dsimp only); omega
   have hhb18 := of_decide_eq_false hb18
   refine q_reg [] [(0, v), (1, iv x), (6, iv (l.length : Int)), (7, iv p), (8, iv ((p + q) / 2))] (TT ∧ TT ∧ True) hA H ⟨tv, tv, tv⟩ fun a w20 hA H hG => ?_
   refine ⟨(p, (p + q) / 2), ⟨env_sub _ hA, ⟨_, H⟩, ?_⟩, ?_⟩
   · (try dsimp only); exact ⟨by omega, by omega, by omega, by rw [bsW_F (by omega) hhb18] at hb; exact hb⟩
   (try dsimp only); omega
 have hhb13 := of_decide_eq_false hb13
 refine go_exit 0 ?_
 refine hK7 _ _ ?_
 refine go_seq fun K21 hK21 => ?_
 refine q_reg [(39, iv (l.getD p.toNat 0)), (46, iv (l.getD p.toNat 0)), (47, .bool false), (50, .bool false)] [(4, iv p), (5, .bool ((decide (p < (l.length : Int))) && ((decide ((l.getD p.toNat 0) = x)) || (false && false))))] (TT ∧ TT ∧ TT ∧ TT ∧ TT ∧ ((decide (p < (l.length : Int))) = true → True) ∧ ((decide (p < (l.length : Int))) = true → True) ∧ ((decide (p < (l.length : Int))) = true → (Try.prog.info? 3).isSome = true ∧ IdxOk v p) ∧ ((decide (p < (l.length : Int))) = true → CellOk (On w12) (hdB v) (hdO v + p.toNat * 1) (.int .i64 (l.getD p.toNat 0))) ∧ ((decide (p < (l.length : Int))) = true → True) ∧ ((decide (p < (l.length : Int))) = true → True) ∧ ((decide (p < (l.length : Int))) = true → True) ∧ ((decide (p < (l.length : Int))) = true → (decide ((l.getD p.toNat 0) = x)) = false → True) ∧ ((decide (p < (l.length : Int))) = true → (decide ((l.getD p.toNat 0) = x)) = false → True) ∧ ((decide (p < (l.length : Int))) = true → (decide ((l.getD p.toNat 0) = x)) = false → (Try.prog.info? 3).isSome = true ∧ IdxOk v p) ∧ ((decide (p < (l.length : Int))) = true → (decide ((l.getD p.toNat 0) = x)) = false → CellOk (On w12) (hdB v) (hdO v + p.toNat * 1) (.int .i64 (l.getD p.toNat 0))) ∧ ((decide (p < (l.length : Int))) = true → (decide ((l.getD p.toNat 0) = x)) = false → Callable Try.prog 101 ∧ CallOk Try.prog (On w12) 101 [.int .i64 (l.getD p.toNat 0)].toArray (.bool false)) ∧ ((decide (p < (l.length : Int))) = true → (decide ((l.getD p.toNat 0) = x)) = false → True) ∧ ((decide (p < (l.length : Int))) = true → (decide ((l.getD p.toNat 0) = x)) = false → (false) = true → True) ∧ ((decide (p < (l.length : Int))) = true → (decide ((l.getD p.toNat 0) = x)) = false → (false) = true → Callable Try.prog 101 ∧ CallOk Try.prog (On w12) 101 [.int .i64 x].toArray (.bool false)) ∧ ((decide (p < (l.length : Int))) = true → (decide ((l.getD p.toNat 0) = x)) = false → True) ∧ ((decide (p < (l.length : Int))) = true → True) ∧ TT ∧ TT ∧ TT ∧ True) hA H ⟨tv, tv, tv, tv, tv, fun _ => trivial, fun _ => trivial, fun hg0 => by replace hg0 := of_decide_eq_true hg0; exact ⟨by kernel_rfl, by exact idx_ok (H.arg hl) (by omega) (by omega)⟩, fun hg0 => by replace hg0 := of_decide_eq_true hg0; exact by exact cell_flat (i := p) (H.arg hl) (by omega) (by omega) 0 0, fun _ => trivial, fun _ => trivial, fun _ => trivial, fun _ _ => trivial, fun _ _ => trivial, fun hg0 hg1 => by replace hg0 := of_decide_eq_true hg0; replace hg1 := of_decide_eq_false hg1; exact ⟨by kernel_rfl, by exact idx_ok (H.arg hl) (by omega) (by omega)⟩, fun hg0 hg1 => by replace hg0 := of_decide_eq_true hg0; replace hg1 := of_decide_eq_false hg1; exact by exact cell_flat (i := p) (H.arg hl) (by omega) (by omega) 0 0, fun _ _ => ⟨callable_of, callOk_of fun w hw => by exact isNaN_any (l.getD p.toNat 0) w⟩, fun _ _ => trivial, fun _ _ _ => trivial, fun _ _ _ => ⟨callable_of, callOk_of fun w hw => by exact isNaN_any x w⟩, fun _ _ => trivial, fun _ => trivial, tv, tv, tv, tv⟩ fun a w22 hA H hG => ?_
 refine hK21 _ _ ?_
 refine go_ret_ ?_
 refine ret_two 4 5 (.int .i64 p) (.bool ((decide (p < (l.length : Int))) && ((decide ((l.getD p.toNat 0) = x)) || (false && false)))) hA ?_
 rw [bsW_end (by omega)] at hb
 exact ans_ib (by rw [hb]; refine ⟨rfl, ?_⟩; unfold hasB; simp) H.below
theorem has_any (v : Value) (l : List Int) (x : Int) (w : World) (hl : Rd (· < w.heap.size) w v l) (hs : l.length ≤ 1000000000000) :
 Calls Try.prog 39 [v, .int .i64 x].toArray w (Ans (.bool (hasB l x)) w) := by
 refine enter Try.f39 14 Try.func39 fun a hA => ?_
 replace hA := env_sub [(0, v), (1, iv x)] hA
 have H := Fr.start (org w)
 refine go_seq fun K1 hK1 => ?_
 refine q_reg [] [(0, v), (1, iv x)] (TT ∧ True) hA H ⟨tv, tv⟩ fun a w2 hA H hG => ?_
 refine hK1 _ _ ?_
 refine go_seq fun K3 hK3 => ?_
 refine q_reg [(10, .tuple #[.int .i64 (bsI l x), .bool (hasB l x)])] [(6, .bool (hasB l x))] (TT ∧ TT ∧ (Callable Try.prog 77 ∧ CallOk Try.prog (On w2) 77 [v, .int .i64 x].toArray (.tuple #[.int .i64 (bsI l x), .bool (hasB l x)])) ∧ TT ∧ TT ∧ TT ∧ TT ∧ TT ∧ True) hA H ⟨tv, tv, ⟨callable_of, callOk_of fun w hw => by exact bs_any v l x w ((H.on hw).arg hl) (by omega)⟩, tv, tv, tv, tv, tv, tv⟩ fun a w4 hA H hG => ?_
 refine hK3 _ _ ?_
 refine go_seq fun K5 hK5 => ?_
 refine q_reg [] [(4, .bool (hasB l x))] (TT ∧ TT ∧ True) hA H ⟨tv, tv, tv⟩ fun a w6 hA H hG => ?_
 refine hK5 _ _ ?_
 refine go_ret_ ?_
 refine ret_one 4 (.bool (hasB l x)) hA ?_
 exact ans_b' rfl H.below
theorem rightPart_any (n : Int) (ve : Value) (E : List (Int × Int)) (vv vl : Value) (V L : List Int) (w : World) (hn : -9223372036854775808 ≤ n ∧ n ≤ 9223372036854775807) (hE : Rd (· < w.heap.size) w ve E) (hV : Rd (· < w.heap.size) w vv V) (hL : Rd (· < w.heap.size) w vl L) :
 Calls Try.prog 31 [.agg #[.int .i64 n, ve], .agg #[vv, vl]].toArray w (Ans (.int .i64 (partE n E V L)) w) := by
 refine enter Try.f31 58 Try.func31 fun a hA => ?_
 replace hA := env_sub [(0, .agg #[.int .i64 n, ve]), (1, .agg #[vv, vl])] hA
 have H := Fr.start (org w)
 refine go_seq fun K1 hK1 => ?_
 refine region_list ?_
 refine list_at 0 ?_; refine q_box 0 2 24 (.tmp 0) (.agg #[.int .i64 n, ve]) [.int .i64 n, ve] [(1, .agg #[vv, vl])] hA H fun b2 a w3 H hA hG hge_b2 => ?_
 clear hge_b2
 refine list_at 1 ?_; refine q_box 1 3 29 (.tmp 1) (.agg #[vv, vl]) [vv, vl] [(2, pv b2)] hA H fun b4 a w5 H hA hG hge_b4 => ?_
 clear hge_b4
 refine q_list 2 1 [] [(2, pv b2), (3, pv b4)] (TT ∧ True) hA H ⟨tv, tv⟩ fun a w6 hA H hG => ?_
 refine list_end ?_
 refine hK1 _ _ ?_
 refine go_seq fun K7 hK7 => ?_
 refine go_seq fun K8 hK8 => ?_
 refine q_reg [(8, .agg #[.int .i64 n, ve]), (9, iv (rightE n E))] [(2, pv b2), (3, pv b4), (5, iv (rightE n E))] (((Try.prog.info? 24).isSome = true ∧ RowOk (On w6) b2 (0) (Try.prog.cellsOf 24) #[.int .i64 n, ve]) ∧ (Callable Try.prog 20 ∧ CallOk Try.prog (On w6) 20 [.agg #[.int .i64 n, ve]].toArray (.int .i64 (rightE n E))) ∧ TT ∧ True) hA H ⟨⟨by kernel_rfl, by exact box_row H 1 rfl 0 2⟩, ⟨callable_of, callOk_of fun w hw => by exact right_any n ve E w (by omega) ((H.on hw).arg hE)⟩, tv, tv⟩ fun a w9 hA H hG => ?_
 refine hK8 _ _ ?_
 refine go_seq fun K10 hK10 => ?_
 refine q_reg [] [(2, pv b2), (3, pv b4), (5, iv (rightE n E)), (11, .bool (!decide (rightE n E = 0)))] (TT ∧ TT ∧ True) hA H ⟨tv, tv, tv⟩ fun a w11 hA H hG => ?_
 refine hK10 _ _ ?_
 refine go_cond hA (.tmp 11) (!decide (rightE n E = 0)) (fun hb12 => ?_) (fun hb12 => ?_)
 · have hhb12 := of_decide_eq_false (nT hb12)
   refine go_seq fun K13 hK13 => ?_
   refine q_reg [] [(4, iv (rightE n E))] (TT ∧ TT ∧ True) hA H ⟨tv, tv, tv⟩ fun a w14 hA H hG => ?_
   refine hK13 _ _ ?_
   refine go_ret_ ?_
   refine ret_one 4 (.int .i64 (rightE n E)) hA ?_
   exact ans_i' (by unfold partE; rw [if_pos hhb12]) H.below
 have hhb12 := of_decide_eq_true (nF hb12)
 refine go_skip ?_
 refine hK7 _ _ ?_
 refine go_seq fun K15 hK15 => ?_
 refine go_seq fun K16 hK16 => ?_
 refine q_reg [(14, vv), (16, iv n), (17, .bool (decide (risesP V n))), (21, vl), (23, ve), (24, iv (E.length : Int)), (25, .bool (decide (risesP L (E.length : Int))))] [(2, pv b2), (3, pv b4), (27, .bool ((!(decide (risesP V n))) || (!(decide (risesP L (E.length : Int))))))] ((0 < Try.prog.cellsOf 27) ∧ (CellOk (On w11) b4 (0 + 0) (vv)) ∧ (0 < Try.prog.cellsOf 3) ∧ (CellOk (On w11) b2 (0 + 0) (.int .i64 n)) ∧ (Callable Try.prog 73 ∧ CallOk Try.prog (On w11) 73 [vv, .int .i64 n].toArray (.bool (decide (risesP V n)))) ∧ TT ∧ TT ∧ ((!(decide (risesP V n))) = false → 0 < Try.prog.cellsOf 27) ∧ ((!(decide (risesP V n))) = false → CellOk (On w11) b4 (0 + 1) (vl)) ∧ ((!(decide (risesP V n))) = false → 0 < Try.prog.cellsOf 22) ∧ ((!(decide (risesP V n))) = false → CellOk (On w11) b2 (0 + 1) (ve)) ∧ ((!(decide (risesP V n))) = false → LenOk ve (E.length : Int)) ∧ ((!(decide (risesP V n))) = false → Callable Try.prog 73 ∧ CallOk Try.prog (On w11) 73 [vl, .int .i64 (E.length : Int)].toArray (.bool (decide (risesP L (E.length : Int))))) ∧ ((!(decide (risesP V n))) = false → True) ∧ TT ∧ True) hA H ⟨by decide +kernel, by exact box_cell H 0 rfl 0, by decide +kernel, by exact box_cell H 1 rfl 0, ⟨callable_of, callOk_of fun w hw => by exact rising_any vv V n w ((H.on hw).arg hV)⟩, tv, tv, fun _ => by decide +kernel, fun _ => by exact box_cell H 0 rfl 1, fun _ => by decide +kernel, fun _ => by exact box_cell H 1 rfl 1, fun _ => by exact len_ok (H.arg hE), fun _ => ⟨callable_of, callOk_of fun w hw => by exact rising_any vl L (E.length : Int) w ((H.on hw).arg hL)⟩, fun _ => trivial, tv, tv⟩ fun a w17 hA H hG => ?_
 refine hK16 _ _ ?_
 refine go_cond hA (.tmp 27) ((!(decide (risesP V n))) || (!(decide (risesP L (E.length : Int))))) (fun hb18 => ?_) (fun hb18 => ?_)
 · have hhb18 := (oT hb18).imp (fun h => of_decide_eq_false (nT h)) (fun h => of_decide_eq_false (nT h))
   refine go_seq fun K19 hK19 => ?_
   refine q_reg [] [(4, iv 4)] (TT ∧ True) hA H ⟨tv, tv⟩ fun a w20 hA H hG => ?_
   refine hK19 _ _ ?_
   refine go_ret_ ?_
   refine ret_one 4 (.int .i64 4) hA ?_
   exact ans_i' (by unfold partE; rw [if_neg (by omega), if_pos hhb18]) H.below
 have hhb18 := (⟨of_decide_eq_true (nF ((oF hb18).1)), of_decide_eq_true (nF ((oF hb18).2))⟩ : _ ∧ _)
 refine go_skip ?_
 refine hK15 _ _ ?_
 refine go_seq fun K21 hK21 => ?_
 refine go_seq fun K22 hK22 => ?_
 have hr0 := rightE_0 (n := n) (E := E) (by omega)
 obtain ⟨hr1, hr2⟩ := hhb18
 have hv9 := rises_len hr1 (by omega)
 have hl9 := rises_len hr2 (by omega)
 refine q_reg [(29, vl), (30, iv (L.length : Int))] [(2, pv b2), (3, pv b4), (29, vl), (30, iv (L.length : Int)), (31, iv 0)] ((0 < Try.prog.cellsOf 27) ∧ (CellOk (On w17) b4 (0 + 1) (vl)) ∧ (LenOk vl (L.length : Int)) ∧ TT ∧ True) hA H ⟨by decide +kernel, by exact box_cell H 0 rfl 1, by exact len_ok (H.arg hL), tv, tv⟩ fun a w23 hA H hG => ?_
 refine hK22 _ _ ?_
 refine go_block 0 ?_
 refine go_loop_ (Int) (fun x_ a W => (fun (i : Int) => EnvOk 58 a (keepEnv [(2, pv b2), (3, pv b4), (29, vl), (30, iv (L.length : Int)), (31, iv i)]) ∧ (∃ S, Fr (org w) W S [.box b4 29 [vv, vl], .box b2 24 [.int .i64 n, ve]]) ∧ 0 ≤ i ∧ ∀ j : Nat, (j : Int) < i → hasB V (E.getD (L.getD j 0).toNat (0, 0)).1 = true ∧ hasB V (E.getD (L.getD j 0).toNat (0, 0)).2 = true) x_) (fun x_ => (fun (i : Int) => ((L.length : Int) - i).toNat) x_) (0) ?_ (fun i a w25 hI => ?_)
 · (try dsimp only); exact ⟨env_sub _ hA, ⟨_, H⟩, by omega, fun j hj => by omega⟩
 obtain ⟨hA, ⟨S, H⟩, h0, hok⟩ := hI
 try dsimp only at h0 hok
 refine go_seq fun K26 hK26 => ?_
 refine q_reg [] [(2, pv b2), (3, pv b4), (29, vl), (30, iv (L.length : Int)), (31, iv i), (32, .bool (decide (i < (L.length : Int))))] (TT ∧ True) hA H ⟨tv, tv⟩ fun a w27 hA H hG => ?_
 refine hK26 _ _ ?_
 refine go_seq fun K28 hK28 => ?_
 refine go_cond hA (.tmp 32) (decide (i < (L.length : Int))) (fun hb29 => ?_) (fun hb29 => ?_)
 · have hhb29 := of_decide_eq_true hb29
   refine go_skip ?_
   refine hK28 _ _ ?_
   refine go_seq fun K30 hK30 => ?_
   refine go_block 1 ?_
   refine go_seq fun K31 hK31 => ?_
   refine q_reg [(34, iv (L.getD i.toNat 0))] [(2, pv b2), (3, pv b4), (7, iv (L.getD i.toNat 0)), (29, vl), (30, iv (L.length : Int)), (31, iv i)] (((Try.prog.info? 3).isSome = true ∧ IdxOk vl i) ∧ (CellOk (On w27) (hdB vl) (hdO vl + i.toNat * 1) (.int .i64 (L.getD i.toNat 0))) ∧ TT ∧ True) hA H ⟨⟨by kernel_rfl, by exact idx_ok (H.arg hL) (by omega) (by omega)⟩, by exact cell_flat (i := i) (H.arg hL) (by omega) (by omega) 0 0, tv, tv⟩ fun a w32 hA H hG => ?_
   refine hK31 _ _ ?_
   refine go_seq fun K33 hK33 => ?_
   have hx := hr2 i.toNat (by omega)
   refine q_draw [(36, vv), (38, ve), (42, iv ((E.getD (L.getD i.toNat 0).toNat (0, 0)).1)), (43, .bool (hasB V ((E.getD (L.getD i.toNat 0).toNat (0, 0)).1))), (47, vv), (49, ve), (53, iv ((E.getD (L.getD i.toNat 0).toNat (0, 0)).2)), (54, .bool (hasB V ((E.getD (L.getD i.toNat 0).toNat (0, 0)).2)))] [(2, pv b2), (3, pv b4), (29, vl), (30, iv (L.length : Int)), (31, iv i), (56, .bool ((!(hasB V ((E.getD (L.getD i.toNat 0).toNat (0, 0)).1))) || (!(hasB V ((E.getD (L.getD i.toNat 0).toNat (0, 0)).2)))))] ((0 < Try.prog.cellsOf 27) ∧ (CellOk (On w32) b4 (0 + 0) (vv)) ∧ (0 < Try.prog.cellsOf 22) ∧ (CellOk (On w32) b2 (0 + 1) (ve)) ∧ TT ∧ ((Try.prog.info? 99).isSome = true ∧ IdxOk ve (L.getD i.toNat 0)) ∧ (0 < Try.prog.cellsOf 3) ∧ (CellOk (On w32) (hdB ve) (hdO ve + (L.getD i.toNat 0).toNat * 2 + 0) (.int .i64 ((E.getD (L.getD i.toNat 0).toNat (0, 0)).1))) ∧ (Callable Try.prog 39 ∧ CallOk Try.prog (On w32) 39 [vv, .int .i64 ((E.getD (L.getD i.toNat 0).toNat (0, 0)).1)].toArray (.bool (hasB V ((E.getD (L.getD i.toNat 0).toNat (0, 0)).1)))) ∧ TT ∧ TT ∧ ((!(hasB V ((E.getD (L.getD i.toNat 0).toNat (0, 0)).1))) = false → 0 < Try.prog.cellsOf 27) ∧ ((!(hasB V ((E.getD (L.getD i.toNat 0).toNat (0, 0)).1))) = false → CellOk (On w32) b4 (0 + 0) (vv)) ∧ ((!(hasB V ((E.getD (L.getD i.toNat 0).toNat (0, 0)).1))) = false → 0 < Try.prog.cellsOf 22) ∧ ((!(hasB V ((E.getD (L.getD i.toNat 0).toNat (0, 0)).1))) = false → CellOk (On w32) b2 (0 + 1) (ve)) ∧ ((!(hasB V ((E.getD (L.getD i.toNat 0).toNat (0, 0)).1))) = false → True) ∧ ((!(hasB V ((E.getD (L.getD i.toNat 0).toNat (0, 0)).1))) = false → (Try.prog.info? 99).isSome = true ∧ IdxOk ve (L.getD i.toNat 0)) ∧ ((!(hasB V ((E.getD (L.getD i.toNat 0).toNat (0, 0)).1))) = false → 0 < Try.prog.cellsOf 3) ∧ ((!(hasB V ((E.getD (L.getD i.toNat 0).toNat (0, 0)).1))) = false → CellOk (On w32) (hdB ve) (hdO ve + (L.getD i.toNat 0).toNat * 2 + 1) (.int .i64 ((E.getD (L.getD i.toNat 0).toNat (0, 0)).2))) ∧ ((!(hasB V ((E.getD (L.getD i.toNat 0).toNat (0, 0)).1))) = false → Callable Try.prog 39 ∧ CallOk Try.prog (On w32) 39 [vv, .int .i64 ((E.getD (L.getD i.toNat 0).toNat (0, 0)).2)].toArray (.bool (hasB V ((E.getD (L.getD i.toNat 0).toNat (0, 0)).2)))) ∧ ((!(hasB V ((E.getD (L.getD i.toNat 0).toNat (0, 0)).1))) = false → True) ∧ TT ∧ True) hA H ⟨by decide +kernel, by exact box_cell H 0 rfl 0, by decide +kernel, by exact box_cell H 1 rfl 1, tv, ⟨by kernel_rfl, by exact idx_ok (H.arg hE) (by omega) (by omega)⟩, by decide +kernel, by exact cell_flat (i := (L.getD i.toNat 0)) (H.arg hE) (by omega) (by omega) (0, 0) 0, ⟨callable_of, callOk_of fun w hw => by exact has_any vv V ((E.getD (L.getD i.toNat 0).toNat (0, 0)).1) w ((H.on hw).arg hV) (by omega)⟩, tv, tv, fun _ => by decide +kernel, fun _ => by exact box_cell H 0 rfl 0, fun _ => by decide +kernel, fun _ => by exact box_cell H 1 rfl 1, fun _ => trivial, fun hg0 => by replace hg0 := (nF hg0); exact ⟨by kernel_rfl, by exact idx_ok (H.arg hE) (by omega) (by omega)⟩, fun _ => by decide +kernel, fun hg0 => by replace hg0 := (nF hg0); exact by exact cell_flat (i := (L.getD i.toNat 0)) (H.arg hE) (by omega) (by omega) (0, 0) 1, fun hg0 => by replace hg0 := (nF hg0); exact ⟨callable_of, callOk_of fun w hw => by exact has_any vv V ((E.getD (L.getD i.toNat 0).toNat (0, 0)).2) w ((H.on hw).arg hV) (by omega)⟩, fun _ => trivial, tv, tv⟩ fun a w34 hA H hG => ?_
   refine hK33 _ _ ?_
   refine go_cond hA (.tmp 56) ((!(hasB V ((E.getD (L.getD i.toNat 0).toNat (0, 0)).1))) || (!(hasB V ((E.getD (L.getD i.toNat 0).toNat (0, 0)).2)))) (fun hb35 => ?_) (fun hb35 => ?_)
   · have hhb35 := (oT hb35).imp (fun h => (nT h)) (fun h => (nT h))
     refine go_seq fun K36 hK36 => ?_
     refine q_reg [] [(4, iv 4)] (TT ∧ True) hA H ⟨tv, tv⟩ fun a w37 hA H hG => ?_
     refine hK36 _ _ ?_
     refine go_ret_ ?_
     refine ret_one 4 (.int .i64 4) hA ?_
     exact ans_i' (by unfold partE; rw [if_neg (by omega), if_neg (by rintro (q | q); exact q hr1; exact q hr2), if_neg (fun q : okPart E V L => by have z := q i.toNat (by omega); rcases hhb35 with y | y; rw [z.1] at y; cases y; rw [z.2] at y; cases y)]) H.below
   have hhb35 := (⟨(nF ((oF hb35).1)), (nF ((oF hb35).2))⟩ : _ ∧ _)
   refine go_skip ?_
   refine hK30 _ _ ?_
   refine q_reg [] [(2, pv b2), (3, pv b4), (29, vl), (30, iv (L.length : Int)), (31, iv (i + 1))] ((InR .i64 (i + 1)) ∧ TT ∧ True) hA H ⟨⟨by omega, by omega⟩, tv, tv⟩ fun a w38 hA H hG => ?_
   refine ⟨(i + 1), ⟨env_sub _ hA, ⟨_, H⟩, ?_⟩, ?_⟩
   · (try dsimp only); exact ⟨by omega, fun j hj => if e : (j : Int) = i then (by rw [show j = i.toNat by omega]; exact hhb35) else hok j (by omega)⟩
   (try dsimp only); omega
 have hhb29 := of_decide_eq_false hb29
 refine go_exit 0 ?_
 refine hK21 _ _ ?_
 refine go_seq fun K39 hK39 => ?_
 refine q_reg [] [(4, iv 0)] (TT ∧ True) hA H ⟨tv, tv⟩ fun a w40 hA H hG => ?_
 refine hK39 _ _ ?_
 refine go_ret_ ?_
 refine ret_one 4 (.int .i64 0) hA ?_
 exact ans_i' (by unfold partE; rw [if_neg (by omega), if_neg (by rintro (q | q); exact q hr1; exact q hr2), if_pos (show okPart E V L from fun j hj => hok j (by omega))]) H.below
theorem btarget_any (n : Int) (ve : Value) (E : List (Int × Int)) (d : Int) (w : World) (hn : -9223372036854775808 ≤ n ∧ n ≤ 9223372036854775807) (hE : Rd (· < w.heap.size) w ve E) (h0 : 0 ≤ d) (h1 : d / 2 < (E.length : Int)) (h2 : d ≤ 1000000000000) :
 Calls Try.prog 128 [.agg #[.int .i64 n, ve], .int .i64 d].toArray w (Ans (.int .i64 (headE E d)) w) := by
 refine enter Try.f128 22 Try.func128 fun a hA => ?_
 replace hA := env_sub [(0, .agg #[.int .i64 n, ve]), (1, iv d)] hA
 have H := Fr.start (org w)
 refine go_seq fun K1 hK1 => ?_
 refine region_list ?_
 refine list_at 0 ?_; refine q_box 0 2 24 (.tmp 0) (.agg #[.int .i64 n, ve]) [.int .i64 n, ve] [(1, iv d)] hA H fun b2 a w3 H hA hG hge_b2 => ?_
 clear hge_b2
 refine q_list 1 1 [] [(1, iv d), (2, pv b2)] (TT ∧ True) hA H ⟨tv, tv⟩ fun a w4 hA H hG => ?_
 refine list_end ?_
 refine hK1 _ _ ?_
 refine go_seq fun K5 hK5 => ?_
 refine go_seq fun K6 hK6 => ?_
 refine q_reg [] [(1, iv d), (2, pv b2), (7, .bool (decide (d % 2 = 0)))] (TT ∧ (0 ≤ d ∧ 0 < (2 : Int)) ∧ TT ∧ True) hA H ⟨tv, ⟨by omega, by omega⟩, tv, tv⟩ fun a w7 hA H hG => ?_
 refine hK6 _ _ ?_
 refine go_cond hA (.tmp 7) (decide (d % 2 = 0)) (fun hb8 => ?_) (fun hb8 => ?_)
 · have hhb8 := of_decide_eq_true hb8
   refine go_seq fun K9 hK9 => ?_
   refine q_reg [(9, ve), (14, iv ((E.getD (d / 2).toNat (0, 0)).2))] [(4, iv ((E.getD (d / 2).toNat (0, 0)).2))] ((0 < Try.prog.cellsOf 22) ∧ (CellOk (On w7) b2 (0 + 1) (ve)) ∧ TT ∧ (0 ≤ d ∧ 0 < (2 : Int) ∧ InR .i64 d) ∧ ((Try.prog.info? 99).isSome = true ∧ IdxOk ve (d / 2)) ∧ (0 < Try.prog.cellsOf 3) ∧ (CellOk (On w7) (hdB ve) (hdO ve + (d / 2).toNat * 2 + 1) (.int .i64 ((E.getD (d / 2).toNat (0, 0)).2))) ∧ TT ∧ True) hA H ⟨by decide +kernel, by exact box_cell H 0 rfl 1, tv, ⟨by omega, by omega, by omega, by omega⟩, ⟨by kernel_rfl, by exact idx_ok (H.arg hE) (by omega) (by omega)⟩, by decide +kernel, by exact cell_flat (i := d / 2) (H.arg hE) (by omega) (by omega) (0, 0) 1, tv, tv⟩ fun a w10 hA H hG => ?_
   refine hK9 _ _ ?_
   refine go_ret_ ?_
   refine ret_one 4 (.int .i64 ((E.getD (d / 2).toNat (0, 0)).2)) hA ?_
   exact ans_i' (by unfold headE eA eB; first | rw [if_pos (by omega)] | rw [if_neg (by omega)]) H.below
 have hhb8 := of_decide_eq_false hb8
 refine go_skip ?_
 refine hK5 _ _ ?_
 refine go_seq fun K11 hK11 => ?_
 refine q_reg [(16, ve), (21, iv ((E.getD (d / 2).toNat (0, 0)).1))] [(4, iv ((E.getD (d / 2).toNat (0, 0)).1))] ((0 < Try.prog.cellsOf 22) ∧ (CellOk (On w7) b2 (0 + 1) (ve)) ∧ TT ∧ (0 ≤ d ∧ 0 < (2 : Int) ∧ InR .i64 d) ∧ ((Try.prog.info? 99).isSome = true ∧ IdxOk ve (d / 2)) ∧ (0 < Try.prog.cellsOf 3) ∧ (CellOk (On w7) (hdB ve) (hdO ve + (d / 2).toNat * 2 + 0) (.int .i64 ((E.getD (d / 2).toNat (0, 0)).1))) ∧ TT ∧ True) hA H ⟨by decide +kernel, by exact box_cell H 0 rfl 1, tv, ⟨by omega, by omega, by omega, by omega⟩, ⟨by kernel_rfl, by exact idx_ok (H.arg hE) (by omega) (by omega)⟩, by decide +kernel, by exact cell_flat (i := d / 2) (H.arg hE) (by omega) (by omega) (0, 0) 0, tv, tv⟩ fun a w12 hA H hG => ?_
 refine hK11 _ _ ?_
 refine go_ret_ ?_
 refine ret_one 4 (.int .i64 ((E.getD (d / 2).toNat (0, 0)).1)) hA ?_
 exact ans_i' (by unfold headE eA eB; first | rw [if_pos (by omega)] | rw [if_neg (by omega)]) H.below
theorem index_any (v : Value) (l : List Int) (x : Int) (w : World) (hl : Rd (· < w.heap.size) w v l) :
 Calls Try.prog 143 [v, .int .i64 x].toArray w (Ans (.int .i64 (idxL l x)) w) := by
 have hlen := rd_len hl
 refine enter Try.f143 19 Try.func143 fun a hA => ?_
 replace hA := env_sub [(0, v), (1, iv x)] hA
 have H := Fr.start (org w)
 refine go_seq fun K1 hK1 => ?_
 refine q_reg [] [(0, v), (1, iv x)] (TT ∧ True) hA H ⟨tv, tv⟩ fun a w2 hA H hG => ?_
 refine hK1 _ _ ?_
 refine go_seq fun K3 hK3 => ?_
 refine go_seq fun K4 hK4 => ?_
 refine q_reg [(7, iv (l.length : Int))] [(0, v), (1, iv x), (7, iv (l.length : Int)), (8, iv 0)] (TT ∧ (LenOk v (l.length : Int)) ∧ TT ∧ True) hA H ⟨tv, by exact len_ok (H.arg hl), tv, tv⟩ fun a w5 hA H hG => ?_
 refine hK4 _ _ ?_
 refine go_block 0 ?_
 refine go_loop_ (Int) (fun x_ a W => (fun (i : Int) => EnvOk 19 a (keepEnv [(0, v), (1, iv x), (7, iv (l.length : Int)), (8, iv i)]) ∧ (∃ S, Fr (org w) W S []) ∧ 0 ≤ i ∧ ∀ j : Nat, (j : Int) < i → l.getD j 0 ≠ x) x_) (fun x_ => (fun (i : Int) => ((l.length : Int) - i).toNat) x_) (0) ?_ (fun i a w7 hI => ?_)
 · (try dsimp only); exact ⟨env_sub _ hA, ⟨_, H⟩, by omega, fun j hj => by omega⟩
 obtain ⟨hA, ⟨S, H⟩, h0, hok⟩ := hI
 try dsimp only at h0 hok
 refine go_seq fun K8 hK8 => ?_
 refine q_reg [] [(0, v), (1, iv x), (7, iv (l.length : Int)), (8, iv i), (9, .bool (decide (i < (l.length : Int))))] (TT ∧ True) hA H ⟨tv, tv⟩ fun a w9 hA H hG => ?_
 refine hK8 _ _ ?_
 refine go_seq fun K10 hK10 => ?_
 refine go_cond hA (.tmp 9) (decide (i < (l.length : Int))) (fun hb11 => ?_) (fun hb11 => ?_)
 · have hhb11 := of_decide_eq_true hb11
   refine go_skip ?_
   refine hK10 _ _ ?_
   refine go_seq fun K12 hK12 => ?_
   refine go_block 1 ?_
   refine go_seq fun K13 hK13 => ?_
   refine q_reg [] [(0, v), (1, iv x), (5, iv i), (7, iv (l.length : Int)), (8, iv i)] (TT ∧ TT ∧ True) hA H ⟨tv, tv, tv⟩ fun a w14 hA H hG => ?_
   refine hK13 _ _ ?_
   refine go_seq fun K15 hK15 => ?_
   refine q_reg [(15, iv (l.getD i.toNat 0))] [(0, v), (1, iv x), (5, iv i), (7, iv (l.length : Int)), (8, iv i), (16, .bool (decide (x = (l.getD i.toNat 0))))] (TT ∧ TT ∧ TT ∧ ((Try.prog.info? 3).isSome = true ∧ IdxOk v i) ∧ (CellOk (On w14) (hdB v) (hdO v + i.toNat * 1) (.int .i64 (l.getD i.toNat 0))) ∧ TT ∧ True) hA H ⟨tv, tv, tv, ⟨by kernel_rfl, by exact idx_ok (H.arg hl) (by omega) (by omega)⟩, by exact cell_flat (i := i) (H.arg hl) (by omega) (by omega) 0 0, tv, tv⟩ fun a w16 hA H hG => ?_
   refine hK15 _ _ ?_
   refine go_cond hA (.tmp 16) (decide (x = (l.getD i.toNat 0))) (fun hb17 => ?_) (fun hb17 => ?_)
   · have hhb17 := of_decide_eq_true hb17
     refine go_seq fun K18 hK18 => ?_
     refine q_reg [] [(4, iv i)] (TT ∧ TT ∧ True) hA H ⟨tv, tv, tv⟩ fun a w19 hA H hG => ?_
     refine hK18 _ _ ?_
     refine go_ret_ ?_
     refine ret_one 4 (.int .i64 i) hA ?_
     exact ans_i' ((idxL_T h0 (by omega) hhb17.symm hok).symm) H.below
   have hhb17 := of_decide_eq_false hb17
   refine go_skip ?_
   refine hK12 _ _ ?_
   refine q_reg [] [(0, v), (1, iv x), (7, iv (l.length : Int)), (8, iv (i + 1))] ((InR .i64 (i + 1)) ∧ TT ∧ True) hA H ⟨⟨by omega, by omega⟩, tv, tv⟩ fun a w20 hA H hG => ?_
   refine ⟨(i + 1), ⟨env_sub _ hA, ⟨_, H⟩, ?_⟩, ?_⟩
   · (try dsimp only); exact ⟨by omega, fun j hj => if e : (j : Int) = i then (by rw [show j = i.toNat by omega]; exact fun q => hhb17 q.symm) else hok j (by omega)⟩
   (try dsimp only); omega
 have hhb11 := of_decide_eq_false hb11
 refine go_exit 0 ?_
 refine hK3 _ _ ?_
 refine go_seq fun K21 hK21 => ?_
 refine q_reg [] [(4, iv (-1))] (TT ∧ True) hA H ⟨tv, tv⟩ fun a w22 hA H hG => ?_
 refine hK21 _ _ ?_
 refine go_ret_ ?_
 refine ret_one 4 (.int .i64 (-1)) hA ?_
 exact ans_i' ((idxL_F (fun j hj => hok j (by omega))).symm) H.below
theorem take_any (n : Int) (ve : Value) (E : List (Int × Int)) (L : List Int) (vd : Value) (DL : List (List Int)) (fb mb lb pb : Nat) (o : Orig) (S : Stab) (s : Deep.St) (ev : Value) (ins : List (Int × Value × List Int)) (tl : List Res) (pre S0 : List Int) (e : Int) (w : World) (hE : Rd (· < o.w.heap.size) o.w ve E) (hH : Fr o w S (finR n ve vd DL fb mb lb pb s ev ins tl)) (hs : s.stk = pre ++ e :: S0) (hp : e ∉ pre) (hb : Deep.Bd s) (hi : insOf ins = s.ins) :
 Calls Try.prog 129 [.pointer (some ⟨fb, 0, none⟩), .int .i64 e].toArray w (FinQ n ve vd DL fb mb lb pb ({ s with stk := pre, blk := s.blk ++ [e :: S0], ins := s.ins ++ [Deep.key (e :: S0)] }) tl o w) := by
 have hil : ins.length ≤ 1000000000 := by have := hb.ins; rw [← hi, List.length_map] at this; exact this
 have hsl0 : s.stk.length ≤ 1000000000 := by have := hb.len; rw [List.length_append] at this; omega
 have hx : idxL s.stk e = (pre.length : Int) := by rw [hs]; exact idxL_at hp
 have hlen9 : S0.length + 1 ≤ 1000000000 := by rw [hs, List.length_append, List.length_cons] at hsl0; omega
 refine enter Try.f129 38 Try.func129 fun a hA => ?_
 replace hA := env_sub [(0, pv fb), (1, iv e)] hA
 have H := hH
 refine go_seq fun K1 hK1 => ?_
 refine q_reg [(9, ev), (11, iv (idxL s.stk e))] [(0, pv fb), (4, iv (idxL s.stk e))] (TT ∧ TT ∧ (0 < Try.prog.cellsOf 27) ∧ (CellOk (On w) fb (0 + 6) (ev)) ∧ TT ∧ (Callable Try.prog 143 ∧ CallOk Try.prog (On w) 143 [ev, .int .i64 e].toArray (.int .i64 (idxL s.stk e))) ∧ TT ∧ True) hA H ⟨tv, tv, by decide +kernel, by exact box_cell H 0 rfl 6, tv, ⟨callable_of, callOk_of fun w hw => by exact index_any ev s.stk e w (((H.on hw).out 3 rfl))⟩, tv, tv⟩ fun a w2 hA H hG => ?_
 refine hK1 _ _ ?_
 refine go_seq fun K3 hK3 => ?_
 refine region_list ?_
 obtain ⟨u, _, hu2, hu3⟩ := reslice (P := Try.prog) (H.out 3 rfl) pre.length s.stk.length (by rw [hs, List.length_append]; omega) (Nat.le_refl _) 27 Try.underlying27 (by kernel_rfl) (by kernel_rfl)
 have hu4 : Rd (· < w2.heap.size) w2 u (e :: S0) := by rw [List.take_of_length_le (by rw [List.length_drop]; exact Nat.le_refl _), hs, List.drop_left] at hu3; exact hu3
 refine q_list 0 6 [(15, ev), (17, u)] [(0, pv fb), (4, iv (idxL s.stk e)), (17, u)] (TT ∧ TT ∧ (0 < Try.prog.cellsOf 27) ∧ (CellOk (On w2) fb (0 + 6) (ev)) ∧ TT ∧ (∀ w, (Instr.sliceAt 27 ev (some (.int .i64 (idxL s.stk e))) none none).run Try.prog w = .ok u w) ∧ True) hA H ⟨tv, tv, by decide +kernel, by exact box_cell H 0 rfl 6, tv, fun w => by rw [hx]; exact hu2 rfl .i64 w, tv⟩ fun a w4 hA H hG => ?_
 replace hu4 := rd_on hu4 hG
 refine list_at 6 ?_; refine q_any 6 18 105 #[.tmp 17] #[27] [u] _ [(0, pv fb), (4, iv (idxL s.stk e))] hA (clone_row H hu4 (by (try simp only [List.length_cons]); omega)) fun v5 a w6 hR7 hA => ?_
 obtain ⟨H, hG⟩ := hR7
 refine q_list 7 1 [] [(0, pv fb), (4, iv (idxL s.stk e)), (5, v5)] (TT ∧ True) hA H ⟨tv, tv⟩ fun a w9 hA H hG => ?_
 refine list_end ?_
 refine hK3 _ _ ?_
 refine go_seq fun K10 hK10 => ?_
 refine region_list ?_
 obtain ⟨u2, hq1, hq2, hq3⟩ := H.cut (P := Try.prog) 4 rfl pre.length (by rw [hs, List.length_append]; omega) (by rw [hs, List.length_append, List.length_cons]; omega) (t := 27) Try.underlying27 (by kernel_rfl)
 rw [show s.stk.take pre.length = pre by rw [hs]; exact List.take_left] at hq3; replace H := hq3
 replace H : Fr _ _ _ (.row 3 v5 (e :: S0) :: .box fb 106 [.int .i64 n, ve, vd, (.slice (some ⟨mb, 0, none⟩) n.toNat n.toNat), (.slice (some ⟨lb, 0, none⟩) n.toNat n.toNat), .int .i64 s.cnt, ev, (.map (some pb))] :: .box mb 3 (arrV n fun j => .int .i64 (s.met j)) :: .box lb 3 (arrV n fun j => .int .i64 (s.low j)) :: .row 3 u2 pre :: mapR Try.prog 3 pb ins :: .ro vd DL :: tl) := H
 refine q_list 0 9 [(23, ev), (25, u2)] [(0, pv fb), (5, v5), (25, u2), (27, .pointer (some ⟨fb, 0 + 6, none⟩))] (TT ∧ TT ∧ TT ∧ (0 < Try.prog.cellsOf 27) ∧ (CellOk (On w9) fb (0 + 6) (ev)) ∧ TT ∧ (∀ w, (Instr.sliceAt 27 ev none (some (.int .i64 (idxL s.stk e))) none).run Try.prog w = .ok u2 w) ∧ TT ∧ (0 < Try.prog.cellsOf 27) ∧ True) hA H ⟨tv, tv, tv, by decide +kernel, by exact box_cell H 1 rfl 6, tv, fun w => by rw [hx]; exact hq1 .i64 w, tv, by decide +kernel, tv⟩ fun a w11 hA H hG => ?_
 refine list_at 9 ?_; refine q_store 9 27 (.tmp 27) (.tmp 25) 1 fb (0 + 6) 106 [.int .i64 n, ve, vd, (.slice (some ⟨mb, 0, none⟩) n.toNat n.toNat), (.slice (some ⟨lb, 0, none⟩) n.toNat n.toNat), .int .i64 s.cnt, ev, (.map (some pb))] [u2] [.int .i64 n, ve, vd, (.slice (some ⟨mb, 0, none⟩) n.toNat n.toNat), (.slice (some ⟨lb, 0, none⟩) n.toNat n.toNat), .int .i64 s.cnt, u2, (.map (some pb))] u2 [(0, pv fb), (5, v5)] hA H rfl (one_cells (rd_one (H.out 4 rfl))) (Nat.le_of_ble_eq_true (by kernel_rfl)) rfl (fun v hv => by simp only [List.mem_cons, List.not_mem_nil, or_false] at hv; rcases hv with rfl; exact (rd_one (H.out 4 rfl))) fun a w12 H hA hG => ?_
 replace H : Fr _ _ _ (.row 3 v5 (e :: S0) :: .box fb 106 [.int .i64 n, ve, vd, (.slice (some ⟨mb, 0, none⟩) n.toNat n.toNat), (.slice (some ⟨lb, 0, none⟩) n.toNat n.toNat), .int .i64 s.cnt, u2, (.map (some pb))] :: .box mb 3 (arrV n fun j => .int .i64 (s.met j)) :: .box lb 3 (arrV n fun j => .int .i64 (s.low j)) :: .row 3 u2 pre :: mapR Try.prog 3 pb ins :: .ro vd DL :: tl) := H
 refine list_end ?_
 refine hK10 _ _ ?_
 refine go_seq fun K13 hK13 => ?_
 refine region_list ?_
 refine q_list 0 1 [] [(0, pv fb), (5, v5), (28, v5)] (TT ∧ True) hA H ⟨tv, tv⟩ fun a w14 hA H hG => ?_
 refine list_at 1 ?_; refine q_any 1 29 74 #[.tmp 28] #[27] [v5] _ [(0, pv fb), (5, v5)] hA (by exact sort_row H 0 rfl (by first | omega | (simp only [List.length_mergeSort]; omega) | (simp only [List.length_cons]; omega))) fun v15 a w16 hR17 hA => ?_
 obtain ⟨H, hG⟩ := hR17
 replace H : Fr _ _ _ (.row 3 v5 (sortL (e :: S0)) :: .box fb 106 [.int .i64 n, ve, vd, (.slice (some ⟨mb, 0, none⟩) n.toNat n.toNat), (.slice (some ⟨lb, 0, none⟩) n.toNat n.toNat), .int .i64 s.cnt, u2, (.map (some pb))] :: .box mb 3 (arrV n fun j => .int .i64 (s.met j)) :: .box lb 3 (arrV n fun j => .int .i64 (s.low j)) :: .row 3 u2 pre :: mapR Try.prog 3 pb ins :: .ro vd DL :: tl) := H
 refine list_end ?_
 refine hK13 _ _ ?_
 obtain ⟨S, _, H⟩ := H.freeze 0 rfl
 replace H : Fr _ _ _ (.ro v5 (sortL (e :: S0)) :: .box fb 106 [.int .i64 n, ve, vd, (.slice (some ⟨mb, 0, none⟩) n.toNat n.toNat), (.slice (some ⟨lb, 0, none⟩) n.toNat n.toNat), .int .i64 s.cnt, u2, (.map (some pb))] :: .box mb 3 (arrV n fun j => .int .i64 (s.met j)) :: .box lb 3 (arrV n fun j => .int .i64 (s.low j)) :: .row 3 u2 pre :: mapR Try.prog 3 pb ins :: .ro vd DL :: tl) := H
 have hk8 : (sortL (e :: S0)).getD (0 : Int).toNat 0 ∈ sortL (e :: S0) := mem_getD.2 ⟨0, by rw [List.length_mergeSort]; simp, rfl⟩
 have hk9 := hb.mem _ (List.mem_append_right _ (by rw [hs]; exact List.mem_append_right _ (mem_sortL.1 hk8)))
 have hsl : (sortL (e :: S0)).length = S0.length + 1 := by rw [List.length_mergeSort]; rfl
 have H0 := H
 have hM0 := H0.keeps none (.inl rfl)
 refine region_mix (But w16 none) [0, 1, 2, 3, 4, 5, 6, 7] 9 ?_
 replace H := H.drawn; have hD := But.drew w16 none
 generalize ({ w16 with drawn := w16.drawn + 1 } : World) = w19 at H hD ⊢
 refine m_take (n := 1) [0, 1, 2, 3, 4, 5, 6, 7] #[true, true, true, true, true, true, true, true, false] [(33, (.map (some pb))), (36, iv ((sortL (e :: S0)).getD (0 : Int).toNat 0))] [(33, (.map (some pb))), (36, iv ((sortL (e :: S0)).getD (0 : Int).toNat 0)), (37, v5)] (TT ∧ TT ∧ (0 < Try.prog.cellsOf 104) ∧ (CellOk (But w16 none) fb (0 + 7) ((.map (some pb)))) ∧ TT ∧ ((Try.prog.info? 3).isSome = true ∧ IdxOk v5 0) ∧ (CellOk (But w16 none) (hdB v5) (hdO v5 + (0 : Int).toNat * 1) (.int .i64 ((sortL (e :: S0)).getD (0 : Int).toNat 0))) ∧ TT ∧ True) hA hD ⟨tv, tv, by decide +kernel, by exact box_cellC (box_atC H0 none 1 rfl (fun e => by cases e)) 7, tv, ⟨by kernel_rfl, by exact idx_ok (H0.getT 0 rfl) (by omega) (by omega)⟩, by exact cell_flatC hM0 (i := (0 : Int)) (H0.getT 0 rfl) (by omega) (by omega) 0 0, tv, tv⟩ fun a hA => ?_
 refine m_one 8 ?_; refine q_mapUpdate 8 104 (.tmp 33) (.tmp 36) (.tmp 37) 5 pb ins ((sortL (e :: S0)).getD (0 : Int).toNat 0) v5 (sortL (e :: S0)) [] hA H rfl (H.getS 0 rfl) ⟨by omega, by omega⟩ (by (try simp only [List.length_append, List.length_cons, List.length_nil]); omega) Try.underlying104 Try.underlying3 fun a w20 H hA hG => ?_
 replace H : Fr _ _ _ (.ro v5 (sortL (e :: S0)) :: .box fb 106 [.int .i64 n, ve, vd, (.slice (some ⟨mb, 0, none⟩) n.toNat n.toNat), (.slice (some ⟨lb, 0, none⟩) n.toNat n.toNat), .int .i64 s.cnt, u2, (.map (some pb))] :: .box mb 3 (arrV n fun j => .int .i64 (s.met j)) :: .box lb 3 (arrV n fun j => .int .i64 (s.low j)) :: .row 3 u2 pre :: mapR Try.prog 3 (α := List (Int)) pb (ins ++ [(((sortL (e :: S0)).getD (0 : Int).toNat 0), v5, sortL (e :: S0))]) :: .ro vd DL :: tl) := H
 refine ⟨fun h => absurd h (by decide), ?_⟩
 refine m_end ?_
 refine ret_noneN (P := Try.prog) (fn := Try.f129) (R := (FinQ n ve vd DL fb mb lb pb ({ s with stk := pre, blk := s.blk ++ [e :: S0], ins := s.ins ++ [Deep.key (e :: S0)] }) tl o w)) hA ?_
 replace H := H.drop 0
 refine ⟨rfl, _, _, _, H, ?_⟩
 show List.map _ (_ ++ _) = _ ++ _; rw [List.map_append]; refine congr (congrArg _ hi) ?_
 show [(_, _)] = [Deep.key _]; unfold Deep.key; rw [head_getD]; rfl
theorem visit_step (n : Int) (ve : Value) (E : List (Int × Int)) (L : List Int) (vd : Value) (DL : List (List Int)) (fb mb lb pb : Nat) (h : Nat) (o : Orig) (S : Stab) (s : Deep.St) (ev : Value) (ins : List (Int × Value × List Int)) (tl : List Res) (s' : Deep.St) (v via : Int) (w : World) (hr : rightE n E = 0) (hL : risesP L (E.length : Int)) (hE : Rd (· < o.w.heap.size) o.w ve E) (hDL : ∀ x, 0 ≤ x → x < n → DL.getD x.toNat [] = dartsL E L x) (hDLn : (DL.length : Int) = n) (ih : ∀ (w : World) (S : Stab) (s s' : Deep.St) (v via : Int) (ev : Value) (ins : List (Int × Value × List Int)) (tl : List Res), Deep.Visit (dartsL E L) (headE E) h v via s s' → Deep.Bd s' → 0 ≤ s.cnt → 0 ≤ v → v < n → Fr o w S (finR n ve vd DL fb mb lb pb s ev ins tl) → insOf ins = s.ins → Calls Try.prog 102 [.pointer (some ⟨fb, 0, none⟩), .int .i64 v, .int .i64 via].toArray w (FinQ n ve vd DL fb mb lb pb s' tl o w)) (hv : Deep.Visit (dartsL E L) (headE E) (h + 1) v via s s') (hb : Deep.Bd s') (hc0 : 0 ≤ s.cnt) (hv0 : 0 ≤ v) (hv1 : v < n) (hH : Fr o w S (finR n ve vd DL fb mb lb pb s ev ins tl)) (hi : insOf ins = s.ins) :
 Calls Try.prog 102 [.pointer (some ⟨fb, 0, none⟩), .int .i64 v, .int .i64 via].toArray w (FinQ n ve vd DL fb mb lb pb s' tl o w) := by
 have hr9 := rightE_0 hr
 have hsb := (Deep.visit_bd (h + 1) _ _ _ _ hv hb).cnt
 refine enter Try.f102 182 Try.func102 fun a hA => ?_
 replace hA := env_sub [(0, pv fb), (1, iv v), (2, iv via)] hA
 have H := hH
 refine go_seq fun K1 hK1 => ?_
 refine region_list ?_
 refine q_list 0 7 [(13, iv s.cnt)] [(0, pv fb), (1, iv v), (2, iv via), (14, iv (s.cnt + 1)), (16, .pointer (some ⟨fb, 0 + 5, none⟩))] (TT ∧ TT ∧ (0 < Try.prog.cellsOf 3) ∧ (CellOk (On w) fb (0 + 5) (.int .i64 s.cnt)) ∧ (InR .i64 (s.cnt + 1)) ∧ TT ∧ (0 < Try.prog.cellsOf 3) ∧ True) hA H ⟨tv, tv, by decide +kernel, by exact box_cell H 0 rfl 5, ⟨by omega, by omega⟩, tv, by decide +kernel, tv⟩ fun a w2 hA H hG => ?_
 refine list_at 7 ?_; refine q_store 7 3 (.tmp 16) (.tmp 14) 0 fb (0 + 5) 106 [.int .i64 n, ve, vd, (.slice (some ⟨mb, 0, none⟩) n.toNat n.toNat), (.slice (some ⟨lb, 0, none⟩) n.toNat n.toNat), .int .i64 s.cnt, ev, (.map (some pb))] [.int .i64 (s.cnt + 1)] [.int .i64 n, ve, vd, (.slice (some ⟨mb, 0, none⟩) n.toNat n.toNat), (.slice (some ⟨lb, 0, none⟩) n.toNat n.toNat), .int .i64 (s.cnt + 1), ev, (.map (some pb))] (.int .i64 (s.cnt + 1)) [(0, pv fb), (1, iv v), (2, iv via)] hA H rfl rfl (Nat.le_of_ble_eq_true (by kernel_rfl)) rfl (fun v hv => by simp only [List.mem_cons, List.not_mem_nil, or_false] at hv; rcases hv with rfl; exact rfl) fun a w3 H hA hG => ?_
 replace H : Fr _ _ _ (.box fb 106 [.int .i64 n, ve, vd, (.slice (some ⟨mb, 0, none⟩) n.toNat n.toNat), (.slice (some ⟨lb, 0, none⟩) n.toNat n.toNat), .int .i64 (s.cnt + 1), ev, (.map (some pb))] :: .box mb 3 (arrV n fun j => .int .i64 (s.met j)) :: .box lb 3 (arrV n fun j => .int .i64 (s.low j)) :: .row 3 ev s.stk :: mapR Try.prog 3 pb ins :: .ro vd DL :: tl) := H
 refine list_end ?_
 refine hK1 _ _ ?_
 refine go_seq fun K4 hK4 => ?_
 have H0 := H
 have hM0 := H0.keeps (some mb) (.inr ⟨_, List.mem_of_getElem? (i := 1) rfl, rfl⟩)
 refine region_mix (But w3 (some mb)) [0, 1, 2, 3, 4, 5, 6, 7, 8, 9, 10, 11, 12, 13, 14, 15, 16, 17, 18, 19] 22 ?_
 replace H := H.drawn; have hD := But.drew w3 (some mb)
 generalize ({ w3 with drawn := w3.drawn + 1 } : World) = w5 at H hD ⊢
 refine m_take (n := 3) [0, 1, 2, 3, 4, 5, 6, 7, 8, 9, 10, 11, 12, 13, 14, 15, 16, 17, 18] #[true, true, true, true, true, true, true, true, true, true, true, true, true, true, true, true, true, true, true, false, false, false] [(20, (.slice (some ⟨mb, 0, none⟩) n.toNat n.toNat)), (25, (.slice (some ⟨lb, 0, none⟩) n.toNat n.toNat)), (30, iv (s.cnt + 1)), (34, iv (s.cnt + 1))] [(0, pv fb), (1, iv v), (2, iv via), (25, (.slice (some ⟨lb, 0, none⟩) n.toNat n.toNat)), (26, iv v), (30, iv (s.cnt + 1)), (34, iv (s.cnt + 1)), (35, .pointer (some ⟨mb, 0 + v.toNat * 1, none⟩))] (TT ∧ TT ∧ (0 < Try.prog.cellsOf 27) ∧ (CellOk (But w3 (some mb)) fb (0 + 3) ((.slice (some ⟨mb, 0, none⟩) n.toNat n.toNat))) ∧ TT ∧ TT ∧ TT ∧ (0 < Try.prog.cellsOf 27) ∧ (CellOk (But w3 (some mb)) fb (0 + 4) ((.slice (some ⟨lb, 0, none⟩) n.toNat n.toNat))) ∧ TT ∧ TT ∧ TT ∧ (0 < Try.prog.cellsOf 3) ∧ (CellOk (But w3 (some mb)) fb (0 + 5) (.int .i64 (s.cnt + 1))) ∧ TT ∧ TT ∧ (0 < Try.prog.cellsOf 3) ∧ (CellOk (But w3 (some mb)) fb (0 + 5) (.int .i64 (s.cnt + 1))) ∧ ((Try.prog.info? 3).isSome = true ∧ IdxOk (.slice (some ⟨mb, 0, none⟩) n.toNat n.toNat) v) ∧ True) hA hD ⟨tv, tv, by decide +kernel, by exact box_cellC (box_atC H0 (some mb) 0 rfl (H0.apart 0 1 (by decide) rfl rfl rfl)) 3, tv, tv, tv, by decide +kernel, by exact box_cellC (box_atC H0 (some mb) 0 rfl (H0.apart 0 1 (by decide) rfl rfl rfl)) 4, tv, tv, tv, by decide +kernel, by exact box_cellC (box_atC H0 (some mb) 0 rfl (H0.apart 0 1 (by decide) rfl rfl rfl)) 5, tv, tv, by decide +kernel, by exact box_cellC (box_atC H0 (some mb) 0 rfl (H0.apart 0 1 (by decide) rfl rfl rfl)) 5, ⟨by kernel_rfl, arr_idx (by omega) (by omega)⟩, tv⟩ fun a hA => ?_
 refine m_one 19 ?_; refine q_store 19 3 (.tmp 35) (.tmp 30) 1 mb (0 + v.toNat * 1) 3 ((arrV n fun j => .int .i64 (s.met j))) [.int .i64 (s.cnt + 1)] ((arrV n fun j => .int .i64 ((Deep.upd s.met v (s.cnt + 1)) j))) (.int .i64 (s.cnt + 1)) [(0, pv fb), (1, iv v), (2, iv via), (25, (.slice (some ⟨lb, 0, none⟩) n.toNat n.toNat)), (26, iv v), (34, iv (s.cnt + 1))] hA H rfl rfl (arr_room (by omega) (by omega)) (arr_set (by omega) (by omega) (congrArg (Value.int .i64) (Deep.upd_same _ _ _)) (fun j hj => congrArg (Value.int .i64) (Deep.upd_ne _ _ hj))) (fun v hv => by simp only [List.mem_cons, List.not_mem_nil, or_false] at hv; rcases hv with rfl; exact rfl) fun a w6 H hA hG => ?_
 replace H : Fr _ _ _ (.box fb 106 [.int .i64 n, ve, vd, (.slice (some ⟨mb, 0, none⟩) n.toNat n.toNat), (.slice (some ⟨lb, 0, none⟩) n.toNat n.toNat), .int .i64 (s.cnt + 1), ev, (.map (some pb))] :: .box mb 3 (arrV n fun j => .int .i64 ((Deep.upd s.met v (s.cnt + 1)) j)) :: .box lb 3 (arrV n fun j => .int .i64 (s.low j)) :: .row 3 ev s.stk :: mapR Try.prog 3 pb ins :: .ro vd DL :: tl) := H
 replace hD := hD.grown hG (fun b hb => .inl hb.symm)
 refine ⟨fun _ => hD, ?_⟩
 refine m_one 20 ?_; refine q_one 20 [] [(0, pv fb), (1, iv v), (2, iv via), (34, iv (s.cnt + 1)), (36, .pointer (some ⟨lb, 0 + v.toNat * 1, none⟩))] (((Try.prog.info? 3).isSome = true ∧ IdxOk (.slice (some ⟨lb, 0, none⟩) n.toNat n.toNat) v) ∧ True) hA H ⟨⟨by kernel_rfl, arr_idx (by omega) (by omega)⟩, tv⟩ fun a w7 H hA hG => ?_
 refine ⟨fun h => absurd h (by decide), ?_⟩
 refine m_one 21 ?_; refine q_store 21 3 (.tmp 36) (.tmp 34) 2 lb (0 + v.toNat * 1) 3 ((arrV n fun j => .int .i64 (s.low j))) [.int .i64 (s.cnt + 1)] ((arrV n fun j => .int .i64 ((Deep.upd s.low v (s.cnt + 1)) j))) (.int .i64 (s.cnt + 1)) [(0, pv fb), (1, iv v), (2, iv via)] hA H rfl rfl (arr_room (by omega) (by omega)) (arr_set (by omega) (by omega) (congrArg (Value.int .i64) (Deep.upd_same _ _ _)) (fun j hj => congrArg (Value.int .i64) (Deep.upd_ne _ _ hj))) (fun v hv => by simp only [List.mem_cons, List.not_mem_nil, or_false] at hv; rcases hv with rfl; exact rfl) fun a w8 H hA hG => ?_
 replace H : Fr _ _ _ (.box fb 106 [.int .i64 n, ve, vd, (.slice (some ⟨mb, 0, none⟩) n.toNat n.toNat), (.slice (some ⟨lb, 0, none⟩) n.toNat n.toNat), .int .i64 (s.cnt + 1), ev, (.map (some pb))] :: .box mb 3 (arrV n fun j => .int .i64 ((Deep.upd s.met v (s.cnt + 1)) j)) :: .box lb 3 (arrV n fun j => .int .i64 ((Deep.upd s.low v (s.cnt + 1)) j)) :: .row 3 ev s.stk :: mapR Try.prog 3 pb ins :: .ro vd DL :: tl) := H
 refine ⟨fun h => absurd h (by decide), ?_⟩
 refine m_end ?_
 refine hK4 _ _ ?_
 refine go_seq fun K9 hK9 => ?_
 obtain ⟨u, huc, hur⟩ := cell_sliceC (C := On w8) H.keepsS (H.getS 5 rfl) v
 have hu := hur hv0 (by omega)
 rw [hDL v hv0 hv1] at hu
 have hul := rd_len hu
 replace H := H.ro hu
 replace H : Fr _ _ _ (.box fb 106 [.int .i64 n, ve, vd, (.slice (some ⟨mb, 0, none⟩) n.toNat n.toNat), (.slice (some ⟨lb, 0, none⟩) n.toNat n.toNat), .int .i64 (s.cnt + 1), ev, (.map (some pb))] :: .box mb 3 (arrV n fun j => .int .i64 ((Deep.upd s.met v (s.cnt + 1)) j)) :: .box lb 3 (arrV n fun j => .int .i64 ((Deep.upd s.low v (s.cnt + 1)) j)) :: .row 3 ev s.stk :: mapR Try.prog 3 pb ins :: .ro vd DL :: .ro u (dartsL E L v) :: tl) := H.sink 1 6
 refine q_reg [(40, vd), (43, u), (44, iv ((dartsL E L v).length : Int))] [(0, pv fb), (1, iv v), (2, iv via), (43, u), (44, iv ((dartsL E L v).length : Int)), (45, iv 0)] (TT ∧ TT ∧ (0 < Try.prog.cellsOf 67) ∧ (CellOk (On w8) fb (0 + 2) (vd)) ∧ TT ∧ ((Try.prog.info? 27).isSome = true ∧ IdxOk vd v) ∧ (CellOk (On w8) (hdB vd) (hdO vd + v.toNat * 1) u) ∧ (LenOk u ((dartsL E L v).length : Int)) ∧ TT ∧ True) hA H ⟨tv, tv, by decide +kernel, by exact box_cell H 0 rfl 2, tv, ⟨by kernel_rfl, by exact idx_ok (H.get 5 rfl) (by omega) (by omega)⟩, by exact huc hv0 (by omega), by exact len_ok (H.get 6 rfl), tv, tv⟩ fun a w10 hA H hG => ?_
 refine hK9 _ _ ?_
 refine go_block 0 ?_
 refine go_loop_ (Int × Deep.St × Value × List (Int × Value × List Int)) (fun x_ a W => (fun (i : Int) (t : Deep.St) (eu : Value) (iu : List (Int × Value × List Int)) => EnvOk 182 a (keepEnv [(0, pv fb), (1, iv v), (2, iv via), (43, u), (44, iv ((dartsL E L v).length : Int)), (45, iv i)]) ∧ (∃ S, Fr o W S (.box fb 106 [.int .i64 n, ve, vd, (.slice (some ⟨mb, 0, none⟩) n.toNat n.toNat), (.slice (some ⟨lb, 0, none⟩) n.toNat n.toNat), .int .i64 t.cnt, eu, (.map (some pb))] :: .box mb 3 (arrV n fun j => .int .i64 (t.met j)) :: .box lb 3 (arrV n fun j => .int .i64 (t.low j)) :: .row 3 eu t.stk :: mapR Try.prog 3 pb iu :: .ro vd DL :: .ro u (dartsL E L v) :: tl)) ∧ 0 ≤ i ∧ 0 ≤ t.cnt ∧ Deep.Steps (Deep.Visit (dartsL E L) (headE E) h) (headE E) v via ((dartsL E L v).drop i.toNat) t s' ∧ insOf iu = t.ins) x_.1 x_.2.1 x_.2.2.1 x_.2.2.2) (fun x_ => (fun (i : Int) (t : Deep.St) (eu : Value) (iu : List (Int × Value × List Int)) => (((dartsL E L v).length : Int) - i).toNat) x_.1 x_.2.1 x_.2.2.1 x_.2.2.2) (0, Deep.enter v s, ev, ins) ?_ (fun x_ a w12 hI => ?_)
 · (try dsimp only); exact ⟨env_sub _ hA, ⟨_, H⟩, by omega, (by show 0 ≤ s.cnt + 1; omega), hv, hi⟩
 obtain ⟨i, t, eu, iu⟩ := x_
 obtain ⟨hA, ⟨S, H⟩, h0, hc, hst, hit⟩ := hI
 try dsimp only at h0 hc hst hit
 replace H : Fr _ _ _ (.box fb 106 [.int .i64 n, ve, vd, (.slice (some ⟨mb, 0, none⟩) n.toNat n.toNat), (.slice (some ⟨lb, 0, none⟩) n.toNat n.toNat), .int .i64 t.cnt, eu, (.map (some pb))] :: .box mb 3 (arrV n fun j => .int .i64 (t.met j)) :: .box lb 3 (arrV n fun j => .int .i64 (t.low j)) :: .row 3 eu t.stk :: mapR Try.prog 3 pb iu :: .ro vd DL :: .ro u (dartsL E L v) :: tl) := H
 have hbt := Deep.steps_bd (Deep.visit_bd h) hst hb
 have hil : iu.length ≤ 1000000000 := by have := hbt.ins; rw [← hit, List.length_map] at this; exact this
 have hsl : t.stk.length ≤ 1000000000 := by have := hbt.len; rw [List.length_append] at this; omega
 refine go_seq fun K13 hK13 => ?_
 refine q_reg [] [(0, pv fb), (1, iv v), (2, iv via), (43, u), (44, iv ((dartsL E L v).length : Int)), (45, iv i), (46, .bool (decide (i < ((dartsL E L v).length : Int))))] (TT ∧ True) hA H ⟨tv, tv⟩ fun a w14 hA H hG => ?_
 refine hK13 _ _ ?_
 refine go_seq fun K15 hK15 => ?_
 refine go_cond hA (.tmp 46) (decide (i < ((dartsL E L v).length : Int))) (fun hb16 => ?_) (fun hb16 => ?_)
 · have hhb16 := of_decide_eq_true hb16
   refine go_skip ?_
   refine hK15 _ _ ?_
   refine go_seq fun K17 hK17 => ?_
   refine go_block 1 ?_
   refine go_seq fun K18 hK18 => ?_
   have hdm : ((dartsL E L v).getD i.toNat 0) ∈ dartsL E L v := mem_getD.2 ⟨i.toNat, by omega, rfl⟩
   obtain ⟨hd0, hd1, hd2, hd3, hd4, hd5⟩ := dart_ok hr hL hdm
   rw [drop_round h0 (by omega)] at hst
   refine q_reg [(48, iv ((dartsL E L v).getD i.toNat 0))] [(0, pv fb), (1, iv v), (2, iv via), (7, iv ((dartsL E L v).getD i.toNat 0)), (43, u), (44, iv ((dartsL E L v).length : Int)), (45, iv i)] (((Try.prog.info? 3).isSome = true ∧ IdxOk u i) ∧ (CellOk (On w14) (hdB u) (hdO u + i.toNat * 1) (.int .i64 ((dartsL E L v).getD i.toNat 0))) ∧ TT ∧ True) hA H ⟨⟨by kernel_rfl, by exact idx_ok (H.get 6 rfl) (by omega) (by omega)⟩, by exact cell_flat (i := i) (H.get 6 rfl) (by omega) (by omega) 0 0, tv, tv⟩ fun a w19 hA H hG => ?_
   refine hK18 _ _ ?_
   refine go_seq fun K20 hK20 => ?_
   refine q_reg [(54, .agg #[.int .i64 n, ve]), (56, iv (headE E ((dartsL E L v).getD i.toNat 0)))] [(0, pv fb), (1, iv v), (2, iv via), (8, iv (((dartsL E L v).getD i.toNat 0) / 2)), (9, iv (headE E ((dartsL E L v).getD i.toNat 0))), (43, u), (44, iv ((dartsL E L v).length : Int)), (45, iv i)] (TT ∧ (0 ≤ ((dartsL E L v).getD i.toNat 0) ∧ 0 < (2 : Int) ∧ InR .i64 ((dartsL E L v).getD i.toNat 0)) ∧ TT ∧ TT ∧ (0 < Try.prog.cellsOf 24) ∧ ((Try.prog.info? 24).isSome = true ∧ RowOk (On w19) fb (0 + 0) (Try.prog.cellsOf 24) #[.int .i64 n, ve]) ∧ TT ∧ (Callable Try.prog 128 ∧ CallOk Try.prog (On w19) 128 [.agg #[.int .i64 n, ve], .int .i64 ((dartsL E L v).getD i.toNat 0)].toArray (.int .i64 (headE E ((dartsL E L v).getD i.toNat 0)))) ∧ TT ∧ TT ∧ True) hA H ⟨tv, ⟨by omega, by omega, by omega, by omega⟩, tv, tv, by decide +kernel, ⟨by kernel_rfl, by exact box_row H 0 rfl 0 2⟩, tv, ⟨callable_of, callOk_of fun w hw => by exact btarget_any n ve E ((dartsL E L v).getD i.toNat 0) w (by omega) (((H.on hw).arg hE)) (by omega) (by omega) (by omega)⟩, tv, tv, tv⟩ fun a w21 hA H hG => ?_
   refine hK20 _ _ ?_
   refine go_block 2 ?_
   refine go_seq fun K22 hK22 => ?_
   refine q_reg [] [(0, pv fb), (1, iv v), (2, iv via), (8, iv (((dartsL E L v).getD i.toNat 0) / 2)), (9, iv (headE E ((dartsL E L v).getD i.toNat 0))), (43, u), (44, iv ((dartsL E L v).length : Int)), (45, iv i), (57, .bool (decide (headE E ((dartsL E L v).getD i.toNat 0) = v)))] (TT ∧ TT ∧ TT ∧ TT ∧ True) hA H ⟨tv, tv, tv, tv, tv⟩ fun a w23 hA H hG => ?_
   refine hK22 _ _ ?_
   refine go_cond hA (.tmp 57) (decide (headE E ((dartsL E L v).getD i.toNat 0) = v)) (fun hb24 => ?_) (fun hb24 => ?_)
   · have hhb24 := of_decide_eq_true hb24
     refine region_list ?_
     refine q_list 0 6 [(64, (.map (some pb)))] [(0, pv fb), (1, iv v), (2, iv via), (43, u), (44, iv ((dartsL E L v).length : Int)), (45, iv i), (64, (.map (some pb))), (65, iv (((dartsL E L v).getD i.toNat 0) / 2)), (66, iv (((dartsL E L v).getD i.toNat 0) / 2))] (TT ∧ TT ∧ (0 < Try.prog.cellsOf 104) ∧ (CellOk (On w23) fb (0 + 7) ((.map (some pb)))) ∧ TT ∧ TT ∧ True) hA H ⟨tv, tv, by decide +kernel, by exact box_cell H 0 rfl 7, tv, tv, tv⟩ fun a w25 hA H hG => ?_
     refine list_at 6 ?_; refine q_lit 6 67 27 1 #[(0, .tmp 66)] 3 [(0, iv (((dartsL E L v).getD i.toNat 0) / 2))] [.int .i64 (((dartsL E L v).getD i.toNat 0) / 2)] [(0, pv fb), (1, iv v), (2, iv via), (43, u), (44, iv ((dartsL E L v).length : Int)), (45, iv i), (64, (.map (some pb))), (65, iv (((dartsL E L v).getD i.toNat 0) / 2))] hA H fun b26 a w27 H hA hG hge_b26 => ?_
     clear hge_b26
     obtain ⟨S, _, H⟩ := H.freezeBox 0 rfl (by exact (RowRd.single (α := Int) (a := ((dartsL E L v).getD i.toNat 0) / 2) (by exact rfl))) (n := 1) rfl (by decide)
     replace H : Fr _ _ _ (.ro (.slice (some ⟨b26, 0, none⟩) 1 1) ([((dartsL E L v).getD i.toNat 0) / 2] : List Int) :: .box fb 106 [.int .i64 n, ve, vd, (.slice (some ⟨mb, 0, none⟩) n.toNat n.toNat), (.slice (some ⟨lb, 0, none⟩) n.toNat n.toNat), .int .i64 t.cnt, eu, (.map (some pb))] :: .box mb 3 (arrV n fun j => .int .i64 (t.met j)) :: .box lb 3 (arrV n fun j => .int .i64 (t.low j)) :: .row 3 eu t.stk :: mapR Try.prog 3 pb iu :: .ro vd DL :: .ro u (dartsL E L v) :: tl) := H
     refine list_at 7 ?_; refine q_mapUpdate 7 104 (.tmp 64) (.tmp 65) (.tmp 67) 5 pb iu (((dartsL E L v).getD i.toNat 0) / 2) (.slice (some ⟨b26, 0, none⟩) 1 1) ([((dartsL E L v).getD i.toNat 0) / 2] : List Int) [(0, pv fb), (1, iv v), (2, iv via), (43, u), (44, iv ((dartsL E L v).length : Int)), (45, iv i)] hA H rfl (H.getS 0 rfl) ⟨by omega, by omega⟩ (by (try simp only [List.length_append, List.length_cons, List.length_nil]); omega) Try.underlying104 Try.underlying3 fun a w29 H hA hG => ?_
     replace H : Fr _ _ _ (.ro (.slice (some ⟨b26, 0, none⟩) 1 1) ([((dartsL E L v).getD i.toNat 0) / 2] : List Int) :: .box fb 106 [.int .i64 n, ve, vd, (.slice (some ⟨mb, 0, none⟩) n.toNat n.toNat), (.slice (some ⟨lb, 0, none⟩) n.toNat n.toNat), .int .i64 t.cnt, eu, (.map (some pb))] :: .box mb 3 (arrV n fun j => .int .i64 (t.met j)) :: .box lb 3 (arrV n fun j => .int .i64 (t.low j)) :: .row 3 eu t.stk :: mapR Try.prog 3 (α := List (Int)) pb (iu ++ [(((dartsL E L v).getD i.toNat 0) / 2, (.slice (some ⟨b26, 0, none⟩) 1 1), ([((dartsL E L v).getD i.toNat 0) / 2] : List Int))]) :: .ro vd DL :: .ro u (dartsL E L v) :: tl) := H
     refine list_end ?_
     refine hK17 _ _ ?_
     refine q_reg [] [(0, pv fb), (1, iv v), (2, iv via), (43, u), (44, iv ((dartsL E L v).length : Int)), (45, iv (i + 1))] ((InR .i64 (i + 1)) ∧ TT ∧ True) hA H ⟨⟨by omega, by omega⟩, tv, tv⟩ fun a w30 hA H hG => ?_
     replace H := H.drop 0
     refine ⟨(i + 1, { t with ins := t.ins ++ [(((dartsL E L v).getD i.toNat 0) / 2, [((dartsL E L v).getD i.toNat 0) / 2])] }, eu, iu ++ [(((dartsL E L v).getD i.toNat 0) / 2, (.slice (some ⟨b26, 0, none⟩) 1 1), ([((dartsL E L v).getD i.toNat 0) / 2] : List Int))]), ⟨env_sub _ hA, ⟨_, H⟩, ?_⟩, ?_⟩
     · (try dsimp only); exact ⟨by omega, hc, Deep.steps_lp hst hhb24, by show List.map _ (_ ++ _) = _ ++ _; rw [List.map_append]; exact congr (congrArg _ hit) rfl⟩
     (try dsimp only); omega
   have hhb24 := of_decide_eq_false hb24
   refine go_seq fun K31 hK31 => ?_
   refine q_reg [] [(0, pv fb), (1, iv v), (2, iv via), (8, iv (((dartsL E L v).getD i.toNat 0) / 2)), (9, iv (headE E ((dartsL E L v).getD i.toNat 0))), (43, u), (44, iv ((dartsL E L v).length : Int)), (45, iv i), (68, .bool (decide (((dartsL E L v).getD i.toNat 0) / 2 = via)))] (TT ∧ TT ∧ TT ∧ TT ∧ True) hA H ⟨tv, tv, tv, tv, tv⟩ fun a w32 hA H hG => ?_
   refine hK31 _ _ ?_
   refine go_cond hA (.tmp 68) (decide (((dartsL E L v).getD i.toNat 0) / 2 = via)) (fun hb33 => ?_) (fun hb33 => ?_)
   · have hhb33 := of_decide_eq_true hb33
     refine go_skip ?_
     refine hK17 _ _ ?_
     refine q_reg [] [(0, pv fb), (1, iv v), (2, iv via), (43, u), (44, iv ((dartsL E L v).length : Int)), (45, iv (i + 1))] ((InR .i64 (i + 1)) ∧ TT ∧ True) hA H ⟨⟨by omega, by omega⟩, tv, tv⟩ fun a w34 hA H hG => ?_
     refine ⟨(i + 1, t, eu, iu), ⟨env_sub _ hA, ⟨_, H⟩, ?_⟩, ?_⟩
     · (try dsimp only); exact ⟨by omega, hc, Deep.steps_via hst hhb24 hhb33, hit⟩
     (try dsimp only); omega
   have hhb33 := of_decide_eq_false hb33
   refine go_seq fun K35 hK35 => ?_
   refine q_reg [(76, (.slice (some ⟨mb, 0, none⟩) n.toNat n.toNat)), (79, iv (t.met (headE E ((dartsL E L v).getD i.toNat 0))))] [(0, pv fb), (1, iv v), (2, iv via), (8, iv (((dartsL E L v).getD i.toNat 0) / 2)), (9, iv (headE E ((dartsL E L v).getD i.toNat 0))), (43, u), (44, iv ((dartsL E L v).length : Int)), (45, iv i), (72, .bool (decide (t.met (headE E ((dartsL E L v).getD i.toNat 0)) = 0)))] (TT ∧ TT ∧ (0 < Try.prog.cellsOf 27) ∧ (CellOk (On w32) fb (0 + 3) ((.slice (some ⟨mb, 0, none⟩) n.toNat n.toNat))) ∧ TT ∧ ((Try.prog.info? 3).isSome = true ∧ IdxOk (.slice (some ⟨mb, 0, none⟩) n.toNat n.toNat) (headE E ((dartsL E L v).getD i.toNat 0))) ∧ (CellOk (On w32) mb (0 + (headE E ((dartsL E L v).getD i.toNat 0)).toNat * 1) (.int .i64 (t.met (headE E ((dartsL E L v).getD i.toNat 0))))) ∧ TT ∧ TT ∧ True) hA H ⟨tv, tv, by decide +kernel, by exact box_cell H 0 rfl 3, tv, ⟨by kernel_rfl, arr_idx (by omega) (by omega)⟩, by exact arr_cell H 1 rfl (by omega) (by omega), tv, tv, tv⟩ fun a w36 hA H hG => ?_
   refine hK35 _ _ ?_
   refine go_cond hA (.tmp 72) (decide (t.met (headE E ((dartsL E L v).getD i.toNat 0)) = 0)) (fun hb37 => ?_) (fun hb37 => ?_)
   · have hhb37 := of_decide_eq_true hb37
     refine go_seq fun K38 hK38 => ?_
     refine region_list ?_
     refine q_list 0 6 [(85, eu)] [(0, pv fb), (1, iv v), (2, iv via), (8, iv (((dartsL E L v).getD i.toNat 0) / 2)), (9, iv (headE E ((dartsL E L v).getD i.toNat 0))), (43, u), (44, iv ((dartsL E L v).length : Int)), (45, iv i), (81, pv fb), (85, eu), (86, iv (((dartsL E L v).getD i.toNat 0) / 2))] (TT ∧ TT ∧ TT ∧ (0 < Try.prog.cellsOf 27) ∧ (CellOk (On w36) fb (0 + 6) (eu)) ∧ TT ∧ True) hA H ⟨tv, tv, tv, by decide +kernel, by exact box_cell H 0 rfl 6, tv, tv⟩ fun a w39 hA H hG => ?_
     refine list_at 6 ?_; refine q_lit 6 87 27 1 #[(0, .tmp 86)] 3 [(0, iv (((dartsL E L v).getD i.toNat 0) / 2))] [.int .i64 (((dartsL E L v).getD i.toNat 0) / 2)] [(0, pv fb), (1, iv v), (2, iv via), (8, iv (((dartsL E L v).getD i.toNat 0) / 2)), (9, iv (headE E ((dartsL E L v).getD i.toNat 0))), (43, u), (44, iv ((dartsL E L v).length : Int)), (45, iv i), (81, pv fb), (85, eu)] hA H fun b40 a w41 H hA hG hge_b40 => ?_
     clear hge_b40
     refine list_at 7 ?_; refine q_push 7 88 (.tmp 85) (.tmp 87) 4 0 b40 1 1 eu t.stk [((dartsL E L v).getD i.toNat 0) / 2] [.int .i64 (((dartsL E L v).getD i.toNat 0) / 2)] [(0, pv fb), (1, iv v), (2, iv via), (8, iv (((dartsL E L v).getD i.toNat 0) / 2)), (9, iv (headE E ((dartsL E L v).getD i.toNat 0))), (43, u), (44, iv ((dartsL E L v).length : Int)), (45, iv i), (81, pv fb)] hA H Try.E27 rfl rfl (by exact (RowRd.single (α := Int) rfl)) rfl (by simp only [List.length_cons, List.length_nil, List.length_append]; omega) (by decide) fun v42 a w43 H hA hG => ?_
     replace H : Fr _ _ _ (.box fb 106 [.int .i64 n, ve, vd, (.slice (some ⟨mb, 0, none⟩) n.toNat n.toNat), (.slice (some ⟨lb, 0, none⟩) n.toNat n.toNat), .int .i64 t.cnt, eu, (.map (some pb))] :: .box mb 3 (arrV n fun j => .int .i64 (t.met j)) :: .box lb 3 (arrV n fun j => .int .i64 (t.low j)) :: .row 3 v42 (t.stk ++ [((dartsL E L v).getD i.toNat 0) / 2]) :: mapR Try.prog 3 pb iu :: .ro vd DL :: .ro u (dartsL E L v) :: tl) := H.drop 0
     refine q_list 8 2 [] [(0, pv fb), (1, iv v), (2, iv via), (8, iv (((dartsL E L v).getD i.toNat 0) / 2)), (9, iv (headE E ((dartsL E L v).getD i.toNat 0))), (43, u), (44, iv ((dartsL E L v).length : Int)), (45, iv i), (88, v42), (90, .pointer (some ⟨fb, 0 + 6, none⟩))] (TT ∧ (0 < Try.prog.cellsOf 27) ∧ True) hA H ⟨tv, by decide +kernel, tv⟩ fun a w44 hA H hG => ?_
     refine list_at 10 ?_; refine q_store 10 27 (.tmp 90) (.tmp 88) 0 fb (0 + 6) 106 [.int .i64 n, ve, vd, (.slice (some ⟨mb, 0, none⟩) n.toNat n.toNat), (.slice (some ⟨lb, 0, none⟩) n.toNat n.toNat), .int .i64 t.cnt, eu, (.map (some pb))] [v42] [.int .i64 n, ve, vd, (.slice (some ⟨mb, 0, none⟩) n.toNat n.toNat), (.slice (some ⟨lb, 0, none⟩) n.toNat n.toNat), .int .i64 t.cnt, v42, (.map (some pb))] v42 [(0, pv fb), (1, iv v), (2, iv via), (8, iv (((dartsL E L v).getD i.toNat 0) / 2)), (9, iv (headE E ((dartsL E L v).getD i.toNat 0))), (43, u), (44, iv ((dartsL E L v).length : Int)), (45, iv i)] hA H rfl (one_cells (rd_one (H.out 3 rfl))) (Nat.le_of_ble_eq_true (by kernel_rfl)) rfl (fun v hv => by simp only [List.mem_cons, List.not_mem_nil, or_false] at hv; rcases hv with rfl; exact (rd_one (H.out 3 rfl))) fun a w45 H hA hG => ?_
     replace H : Fr _ _ _ (.box fb 106 [.int .i64 n, ve, vd, (.slice (some ⟨mb, 0, none⟩) n.toNat n.toNat), (.slice (some ⟨lb, 0, none⟩) n.toNat n.toNat), .int .i64 t.cnt, v42, (.map (some pb))] :: .box mb 3 (arrV n fun j => .int .i64 (t.met j)) :: .box lb 3 (arrV n fun j => .int .i64 (t.low j)) :: .row 3 v42 (t.stk ++ [((dartsL E L v).getD i.toNat 0) / 2]) :: mapR Try.prog 3 pb iu :: .ro vd DL :: .ro u (dartsL E L v) :: tl) := H
     refine list_end ?_
     refine hK38 _ _ ?_
     refine go_seq fun K46 hK46 => ?_
     refine region_list ?_
     refine q_list 0 3 [] [(0, pv fb), (1, iv v), (2, iv via), (8, iv (((dartsL E L v).getD i.toNat 0) / 2)), (9, iv (headE E ((dartsL E L v).getD i.toNat 0))), (43, u), (44, iv ((dartsL E L v).length : Int)), (45, iv i), (91, pv fb), (92, iv (headE E ((dartsL E L v).getD i.toNat 0))), (93, iv (((dartsL E L v).getD i.toNat 0) / 2))] (TT ∧ TT ∧ TT ∧ True) hA H ⟨tv, tv, tv, tv⟩ fun a w47 hA H hG => ?_
     obtain ⟨s1, hc1, hk1, hk2⟩ := Deep.steps_go hst hhb24 hhb33 hhb37
     have hb1 : Deep.Bd s1 := by
       by_cases q : s1.low (headE E ((dartsL E L v).getD i.toNat 0)) < s1.met v
       · exact (Deep.steps_bd (Deep.visit_bd h) (hk1 q) hb).low
       obtain ⟨pre, S0, e1, e2, hk⟩ := hk2 q; exact Deep.Bd.take e1 (Deep.steps_bd (Deep.visit_bd h) hk hb)
     have hc2 := Deep.visit_cnt _ _ _ _ _ hc1; simp only at hc2
     refine list_at 3 ?_; refine q_any 3 94 102 #[.tmp 91, .tmp 92, .tmp 93] #[107, 3, 3] [.pointer (some ⟨fb, 0, none⟩), .int .i64 (headE E ((dartsL E L v).getD i.toNat 0)), .int .i64 (((dartsL E L v).getD i.toNat 0) / 2)] (fun u9 w9 => ∃ S ev9 in9, Fr o w9 S (finR n ve vd DL fb mb lb pb s1 ev9 in9 (.ro u (dartsL E L v) :: tl)) ∧ insOf in9 = s1.ins) [(0, pv fb), (1, iv v), (2, iv via), (8, iv (((dartsL E L v).getD i.toNat 0) / 2)), (9, iv (headE E ((dartsL E L v).getD i.toNat 0))), (43, u), (44, iv ((dartsL E L v).length : Int)), (45, iv i)] hA ((ih _ _ { t with stk := t.stk ++ [((dartsL E L v).getD i.toNat 0) / 2] } s1 _ _ v42 iu (.ro u (dartsL E L v) :: tl) hc1 hb1 hc hd2 hd3 H hit).mono fun e9 w9 h9 => ⟨_, h9.1, h9.2⟩) fun v48 a w49 hR50 hA => ?_
     obtain ⟨S, ev2, iu2, H, hi2⟩ := hR50
     replace H : Fr _ _ _ (.box fb 106 [.int .i64 n, ve, vd, (.slice (some ⟨mb, 0, none⟩) n.toNat n.toNat), (.slice (some ⟨lb, 0, none⟩) n.toNat n.toNat), .int .i64 s1.cnt, ev2, (.map (some pb))] :: .box mb 3 (arrV n fun j => .int .i64 (s1.met j)) :: .box lb 3 (arrV n fun j => .int .i64 (s1.low j)) :: .row 3 ev2 s1.stk :: mapR Try.prog 3 pb iu2 :: .ro vd DL :: .ro u (dartsL E L v) :: tl) := H
     refine list_end ?_
     refine hK46 _ _ ?_
     refine go_seq fun K51 hK51 => ?_
     have H0 := H
     have hM0 := H0.keeps none (.inl rfl)
     refine region_mix (But w49 none) [0, 1, 2, 3, 4, 5, 6, 7, 8, 9, 10, 11, 12, 13, 14, 15, 16, 17, 18, 19] 22 ?_
     replace H := H.drawn; have hD := But.drew w49 none
     generalize ({ w49 with drawn := w49.drawn + 1 } : World) = w52 at H hD ⊢
     refine m_take (n := 2) [0, 1, 2, 3, 4, 5, 6, 7, 8, 9, 10, 11, 12, 13, 14, 15, 16, 17, 18, 19] #[true, true, true, true, true, true, true, true, true, true, true, true, true, true, true, true, true, true, true, true, false, false] [(98, (.slice (some ⟨lb, 0, none⟩) n.toNat n.toNat)), (103, (.slice (some ⟨lb, 0, none⟩) n.toNat n.toNat)), (106, iv (s1.low v)), (110, (.slice (some ⟨lb, 0, none⟩) n.toNat n.toNat)), (113, iv (s1.low (headE E ((dartsL E L v).getD i.toNat 0)))), (114, iv (min (s1.low v) (s1.low (headE E ((dartsL E L v).getD i.toNat 0)))))] [(0, pv fb), (1, iv v), (2, iv via), (8, iv (((dartsL E L v).getD i.toNat 0) / 2)), (9, iv (headE E ((dartsL E L v).getD i.toNat 0))), (43, u), (44, iv ((dartsL E L v).length : Int)), (45, iv i), (98, (.slice (some ⟨lb, 0, none⟩) n.toNat n.toNat)), (99, iv v), (114, iv (min (s1.low v) (s1.low (headE E ((dartsL E L v).getD i.toNat 0)))))] (TT ∧ TT ∧ (0 < Try.prog.cellsOf 27) ∧ (CellOk (But w49 none) fb (0 + 4) ((.slice (some ⟨lb, 0, none⟩) n.toNat n.toNat))) ∧ TT ∧ TT ∧ TT ∧ (0 < Try.prog.cellsOf 27) ∧ (CellOk (But w49 none) fb (0 + 4) ((.slice (some ⟨lb, 0, none⟩) n.toNat n.toNat))) ∧ TT ∧ ((Try.prog.info? 3).isSome = true ∧ IdxOk (.slice (some ⟨lb, 0, none⟩) n.toNat n.toNat) v) ∧ (CellOk (But w49 none) lb (0 + v.toNat * 1) (.int .i64 (s1.low v))) ∧ TT ∧ TT ∧ (0 < Try.prog.cellsOf 27) ∧ (CellOk (But w49 none) fb (0 + 4) ((.slice (some ⟨lb, 0, none⟩) n.toNat n.toNat))) ∧ TT ∧ ((Try.prog.info? 3).isSome = true ∧ IdxOk (.slice (some ⟨lb, 0, none⟩) n.toNat n.toNat) (headE E ((dartsL E L v).getD i.toNat 0))) ∧ (CellOk (But w49 none) lb (0 + (headE E ((dartsL E L v).getD i.toNat 0)).toNat * 1) (.int .i64 (s1.low (headE E ((dartsL E L v).getD i.toNat 0))))) ∧ (∀ ty w, (Builtin.min_ #[3, 3] ty [.int .i64 (s1.low v), .int .i64 (s1.low (headE E ((dartsL E L v).getD i.toNat 0)))].toArray).run Try.prog w = .ok (.int .i64 (min (s1.low v) (s1.low (headE E ((dartsL E L v).getD i.toNat 0))))) w) ∧ True) hA hD ⟨tv, tv, by decide +kernel, by exact box_cellC (box_atC H0 none 0 rfl (fun e => by cases e)) 4, tv, tv, tv, by decide +kernel, by exact box_cellC (box_atC H0 none 0 rfl (fun e => by cases e)) 4, tv, ⟨by kernel_rfl, arr_idx (by omega) (by omega)⟩, by exact arr_cellC (box_atC H0 none 2 rfl (fun e => by cases e)) (by omega) (by omega), tv, tv, by decide +kernel, by exact box_cellC (box_atC H0 none 0 rfl (fun e => by cases e)) 4, tv, ⟨by kernel_rfl, arr_idx (by omega) (by omega)⟩, by exact arr_cellC (box_atC H0 none 2 rfl (fun e => by cases e)) (by omega) (by omega), fun ty w => min_ok ty w, tv⟩ fun a hA => ?_
     refine m_one 20 ?_; refine q_one 20 [] [(0, pv fb), (1, iv v), (2, iv via), (8, iv (((dartsL E L v).getD i.toNat 0) / 2)), (9, iv (headE E ((dartsL E L v).getD i.toNat 0))), (43, u), (44, iv ((dartsL E L v).length : Int)), (45, iv i), (114, iv (min (s1.low v) (s1.low (headE E ((dartsL E L v).getD i.toNat 0))))), (115, .pointer (some ⟨lb, 0 + v.toNat * 1, none⟩))] (((Try.prog.info? 3).isSome = true ∧ IdxOk (.slice (some ⟨lb, 0, none⟩) n.toNat n.toNat) v) ∧ True) hA H ⟨⟨by kernel_rfl, arr_idx (by omega) (by omega)⟩, tv⟩ fun a w53 H hA hG => ?_
     refine ⟨fun h => absurd h (by decide), ?_⟩
     refine m_one 21 ?_; refine q_store 21 3 (.tmp 115) (.tmp 114) 2 lb (0 + v.toNat * 1) 3 ((arrV n fun j => .int .i64 (s1.low j))) [.int .i64 (min (s1.low v) (s1.low (headE E ((dartsL E L v).getD i.toNat 0))))] ((arrV n fun j => .int .i64 ((Deep.upd s1.low v (min (s1.low v) (s1.low (headE E ((dartsL E L v).getD i.toNat 0))))) j))) (.int .i64 (min (s1.low v) (s1.low (headE E ((dartsL E L v).getD i.toNat 0))))) [(0, pv fb), (1, iv v), (2, iv via), (8, iv (((dartsL E L v).getD i.toNat 0) / 2)), (9, iv (headE E ((dartsL E L v).getD i.toNat 0))), (43, u), (44, iv ((dartsL E L v).length : Int)), (45, iv i)] hA H rfl rfl (arr_room (by omega) (by omega)) (arr_set (by omega) (by omega) (congrArg (Value.int .i64) (Deep.upd_same _ _ _)) (fun j hj => congrArg (Value.int .i64) (Deep.upd_ne _ _ hj))) (fun v hv => by simp only [List.mem_cons, List.not_mem_nil, or_false] at hv; rcases hv with rfl; exact rfl) fun a w54 H hA hG => ?_
     replace H : Fr _ _ _ (.box fb 106 [.int .i64 n, ve, vd, (.slice (some ⟨mb, 0, none⟩) n.toNat n.toNat), (.slice (some ⟨lb, 0, none⟩) n.toNat n.toNat), .int .i64 s1.cnt, ev2, (.map (some pb))] :: .box mb 3 (arrV n fun j => .int .i64 (s1.met j)) :: .box lb 3 (arrV n fun j => .int .i64 ((Deep.upd s1.low v (min (s1.low v) (s1.low (headE E ((dartsL E L v).getD i.toNat 0))))) j)) :: .row 3 ev2 s1.stk :: mapR Try.prog 3 pb iu2 :: .ro vd DL :: .ro u (dartsL E L v) :: tl) := H
     refine ⟨fun h => absurd h (by decide), ?_⟩
     refine m_end ?_
     refine hK51 _ _ ?_
     refine go_seq fun K55 hK55 => ?_
     refine q_draw [(119, (.slice (some ⟨lb, 0, none⟩) n.toNat n.toNat)), (122, iv ((Deep.upd s1.low v (min (s1.low v) (s1.low (headE E ((dartsL E L v).getD i.toNat 0))))) (headE E ((dartsL E L v).getD i.toNat 0)))), (126, (.slice (some ⟨mb, 0, none⟩) n.toNat n.toNat)), (129, iv (s1.met v))] [(0, pv fb), (1, iv v), (2, iv via), (8, iv (((dartsL E L v).getD i.toNat 0) / 2)), (43, u), (44, iv ((dartsL E L v).length : Int)), (45, iv i), (130, .bool (decide (s1.met v ≤ (Deep.upd s1.low v (min (s1.low v) (s1.low (headE E ((dartsL E L v).getD i.toNat 0))))) (headE E ((dartsL E L v).getD i.toNat 0)))))] (TT ∧ TT ∧ (0 < Try.prog.cellsOf 27) ∧ (CellOk (On w54) fb (0 + 4) ((.slice (some ⟨lb, 0, none⟩) n.toNat n.toNat))) ∧ TT ∧ ((Try.prog.info? 3).isSome = true ∧ IdxOk (.slice (some ⟨lb, 0, none⟩) n.toNat n.toNat) (headE E ((dartsL E L v).getD i.toNat 0))) ∧ (CellOk (On w54) lb (0 + (headE E ((dartsL E L v).getD i.toNat 0)).toNat * 1) (.int .i64 ((Deep.upd s1.low v (min (s1.low v) (s1.low (headE E ((dartsL E L v).getD i.toNat 0))))) (headE E ((dartsL E L v).getD i.toNat 0))))) ∧ TT ∧ TT ∧ (0 < Try.prog.cellsOf 27) ∧ (CellOk (On w54) fb (0 + 3) ((.slice (some ⟨mb, 0, none⟩) n.toNat n.toNat))) ∧ TT ∧ ((Try.prog.info? 3).isSome = true ∧ IdxOk (.slice (some ⟨mb, 0, none⟩) n.toNat n.toNat) v) ∧ (CellOk (On w54) mb (0 + v.toNat * 1) (.int .i64 (s1.met v))) ∧ TT ∧ True) hA H ⟨tv, tv, by decide +kernel, by exact box_cell H 0 rfl 4, tv, ⟨by kernel_rfl, arr_idx (by omega) (by omega)⟩, by exact arr_cell H 2 rfl (by omega) (by omega), tv, tv, by decide +kernel, by exact box_cell H 0 rfl 3, tv, ⟨by kernel_rfl, arr_idx (by omega) (by omega)⟩, by exact arr_cell H 1 rfl (by omega) (by omega), tv, tv⟩ fun a w56 hA H hG => ?_
     refine hK55 _ _ ?_
     refine go_cond hA (.tmp 130) (decide (s1.met v ≤ (Deep.upd s1.low v (min (s1.low v) (s1.low (headE E ((dartsL E L v).getD i.toNat 0))))) (headE E ((dartsL E L v).getD i.toNat 0)))) (fun hb57 => ?_) (fun hb57 => ?_)
     · have hhb57 := of_decide_eq_true hb57
       refine region_list ?_
       refine q_list 0 2 [] [(0, pv fb), (1, iv v), (2, iv via), (43, u), (44, iv ((dartsL E L v).length : Int)), (45, iv i), (131, pv fb), (132, iv (((dartsL E L v).getD i.toNat 0) / 2))] (TT ∧ TT ∧ True) hA H ⟨tv, tv, tv⟩ fun a w58 hA H hG => ?_
       have hge : ¬ s1.low (headE E ((dartsL E L v).getD i.toNat 0)) < s1.met v := by have q := hhb57; rw [Deep.upd_ne _ _ hhb24] at q; omega
       obtain ⟨pre, S0, hs1, hs2, hk3⟩ := hk2 hge
       refine list_at 2 ?_; refine q_any 2 133 129 #[.tmp 131, .tmp 132] #[107, 3] [.pointer (some ⟨fb, 0, none⟩), .int .i64 (((dartsL E L v).getD i.toNat 0) / 2)] (fun u9 w9 => ∃ S ev9 in9, Fr o w9 S (finR n ve vd DL fb mb lb pb ({ s1 with low := (Deep.upd s1.low v (min (s1.low v) (s1.low (headE E ((dartsL E L v).getD i.toNat 0))))), stk := pre, blk := s1.blk ++ [((dartsL E L v).getD i.toNat 0) / 2 :: S0], ins := s1.ins ++ [Deep.key (((dartsL E L v).getD i.toNat 0) / 2 :: S0)] }) ev9 in9 (.ro u (dartsL E L v) :: tl)) ∧ insOf in9 = s1.ins ++ [Deep.key (((dartsL E L v).getD i.toNat 0) / 2 :: S0)]) [(0, pv fb), (1, iv v), (2, iv via), (43, u), (44, iv ((dartsL E L v).length : Int)), (45, iv i)] hA ((take_any n ve E L vd DL fb mb lb pb o _ { s1 with low := (Deep.upd s1.low v (min (s1.low v) (s1.low (headE E ((dartsL E L v).getD i.toNat 0))))) } ev2 iu2 (.ro u (dartsL E L v) :: tl) pre S0 _ _ hE H hs1 hs2 ⟨hb1.cnt, hb1.len, hb1.mem, hb1.ins⟩ hi2).mono fun e9 w9 h9 => ⟨_, h9.1, h9.2⟩) fun v59 a w60 hR61 hA => ?_
       obtain ⟨S, ev3, iu3, H, hi3⟩ := hR61
       replace H : Fr _ _ _ (.box fb 106 [.int .i64 n, ve, vd, (.slice (some ⟨mb, 0, none⟩) n.toNat n.toNat), (.slice (some ⟨lb, 0, none⟩) n.toNat n.toNat), .int .i64 s1.cnt, ev3, (.map (some pb))] :: .box mb 3 (arrV n fun j => .int .i64 (s1.met j)) :: .box lb 3 (arrV n fun j => .int .i64 ((Deep.upd s1.low v (min (s1.low v) (s1.low (headE E ((dartsL E L v).getD i.toNat 0))))) j)) :: .row 3 ev3 pre :: mapR Try.prog 3 pb iu3 :: .ro vd DL :: .ro u (dartsL E L v) :: tl) := H
       refine list_end ?_
       refine hK17 _ _ ?_
       refine q_reg [] [(0, pv fb), (1, iv v), (2, iv via), (43, u), (44, iv ((dartsL E L v).length : Int)), (45, iv (i + 1))] ((InR .i64 (i + 1)) ∧ TT ∧ True) hA H ⟨⟨by omega, by omega⟩, tv, tv⟩ fun a w62 hA H hG => ?_
       refine ⟨(i + 1, { s1 with low := (Deep.upd s1.low v (min (s1.low v) (s1.low (headE E ((dartsL E L v).getD i.toNat 0))))), stk := pre, blk := s1.blk ++ [((dartsL E L v).getD i.toNat 0) / 2 :: S0], ins := s1.ins ++ [Deep.key (((dartsL E L v).getD i.toNat 0) / 2 :: S0)] }, ev3, iu3), ⟨env_sub _ hA, ⟨_, H⟩, ?_⟩, ?_⟩
       · (try dsimp only); exact ⟨by omega, by show 0 ≤ s1.cnt; omega, hk3, hi3⟩
       (try dsimp only); omega
     have hhb57 := of_decide_eq_false hb57
     refine go_skip ?_
     refine hK17 _ _ ?_
     refine q_reg [] [(0, pv fb), (1, iv v), (2, iv via), (43, u), (44, iv ((dartsL E L v).length : Int)), (45, iv (i + 1))] ((InR .i64 (i + 1)) ∧ TT ∧ True) hA H ⟨⟨by omega, by omega⟩, tv, tv⟩ fun a w63 hA H hG => ?_
     refine ⟨(i + 1, { s1 with low := (Deep.upd s1.low v (min (s1.low v) (s1.low (headE E ((dartsL E L v).getD i.toNat 0))))) }, ev2, iu2), ⟨env_sub _ hA, ⟨_, H⟩, ?_⟩, ?_⟩
     · (try dsimp only); exact ⟨by omega, by show 0 ≤ s1.cnt; omega, hk1 (by have q := hhb57; rw [Deep.upd_ne _ _ hhb24] at q; omega), hi2⟩
     (try dsimp only); omega
   have hhb37 := of_decide_eq_false hb37
   refine go_seq fun K64 hK64 => ?_
   refine q_draw [(138, (.slice (some ⟨mb, 0, none⟩) n.toNat n.toNat)), (141, iv (t.met (headE E ((dartsL E L v).getD i.toNat 0)))), (145, (.slice (some ⟨mb, 0, none⟩) n.toNat n.toNat)), (148, iv (t.met v))] [(0, pv fb), (1, iv v), (2, iv via), (8, iv (((dartsL E L v).getD i.toNat 0) / 2)), (9, iv (headE E ((dartsL E L v).getD i.toNat 0))), (43, u), (44, iv ((dartsL E L v).length : Int)), (45, iv i), (134, .bool (decide (t.met (headE E ((dartsL E L v).getD i.toNat 0)) < t.met v)))] (TT ∧ TT ∧ (0 < Try.prog.cellsOf 27) ∧ (CellOk (On w36) fb (0 + 3) ((.slice (some ⟨mb, 0, none⟩) n.toNat n.toNat))) ∧ TT ∧ ((Try.prog.info? 3).isSome = true ∧ IdxOk (.slice (some ⟨mb, 0, none⟩) n.toNat n.toNat) (headE E ((dartsL E L v).getD i.toNat 0))) ∧ (CellOk (On w36) mb (0 + (headE E ((dartsL E L v).getD i.toNat 0)).toNat * 1) (.int .i64 (t.met (headE E ((dartsL E L v).getD i.toNat 0))))) ∧ TT ∧ TT ∧ (0 < Try.prog.cellsOf 27) ∧ (CellOk (On w36) fb (0 + 3) ((.slice (some ⟨mb, 0, none⟩) n.toNat n.toNat))) ∧ TT ∧ ((Try.prog.info? 3).isSome = true ∧ IdxOk (.slice (some ⟨mb, 0, none⟩) n.toNat n.toNat) v) ∧ (CellOk (On w36) mb (0 + v.toNat * 1) (.int .i64 (t.met v))) ∧ TT ∧ TT ∧ True) hA H ⟨tv, tv, by decide +kernel, by exact box_cell H 0 rfl 3, tv, ⟨by kernel_rfl, arr_idx (by omega) (by omega)⟩, by exact arr_cell H 1 rfl (by omega) (by omega), tv, tv, by decide +kernel, by exact box_cell H 0 rfl 3, tv, ⟨by kernel_rfl, arr_idx (by omega) (by omega)⟩, by exact arr_cell H 1 rfl (by omega) (by omega), tv, tv, tv⟩ fun a w65 hA H hG => ?_
   refine hK64 _ _ ?_
   refine go_cond hA (.tmp 134) (decide (t.met (headE E ((dartsL E L v).getD i.toNat 0)) < t.met v)) (fun hb66 => ?_) (fun hb66 => ?_)
   · have hhb66 := of_decide_eq_true hb66
     refine go_seq fun K67 hK67 => ?_
     refine region_list ?_
     refine q_list 0 6 [(154, eu)] [(0, pv fb), (1, iv v), (2, iv via), (9, iv (headE E ((dartsL E L v).getD i.toNat 0))), (43, u), (44, iv ((dartsL E L v).length : Int)), (45, iv i), (150, pv fb), (154, eu), (155, iv (((dartsL E L v).getD i.toNat 0) / 2))] (TT ∧ TT ∧ TT ∧ (0 < Try.prog.cellsOf 27) ∧ (CellOk (On w65) fb (0 + 6) (eu)) ∧ TT ∧ True) hA H ⟨tv, tv, tv, by decide +kernel, by exact box_cell H 0 rfl 6, tv, tv⟩ fun a w68 hA H hG => ?_
     refine list_at 6 ?_; refine q_lit 6 156 27 1 #[(0, .tmp 155)] 3 [(0, iv (((dartsL E L v).getD i.toNat 0) / 2))] [.int .i64 (((dartsL E L v).getD i.toNat 0) / 2)] [(0, pv fb), (1, iv v), (2, iv via), (9, iv (headE E ((dartsL E L v).getD i.toNat 0))), (43, u), (44, iv ((dartsL E L v).length : Int)), (45, iv i), (150, pv fb), (154, eu)] hA H fun b69 a w70 H hA hG hge_b69 => ?_
     clear hge_b69
     refine list_at 7 ?_; refine q_push 7 157 (.tmp 154) (.tmp 156) 4 0 b69 1 1 eu t.stk [((dartsL E L v).getD i.toNat 0) / 2] [.int .i64 (((dartsL E L v).getD i.toNat 0) / 2)] [(0, pv fb), (1, iv v), (2, iv via), (9, iv (headE E ((dartsL E L v).getD i.toNat 0))), (43, u), (44, iv ((dartsL E L v).length : Int)), (45, iv i), (150, pv fb)] hA H Try.E27 rfl rfl (by exact (RowRd.single (α := Int) rfl)) rfl (by simp only [List.length_cons, List.length_nil, List.length_append]; omega) (by decide) fun v71 a w72 H hA hG => ?_
     replace H : Fr _ _ _ (.box fb 106 [.int .i64 n, ve, vd, (.slice (some ⟨mb, 0, none⟩) n.toNat n.toNat), (.slice (some ⟨lb, 0, none⟩) n.toNat n.toNat), .int .i64 t.cnt, eu, (.map (some pb))] :: .box mb 3 (arrV n fun j => .int .i64 (t.met j)) :: .box lb 3 (arrV n fun j => .int .i64 (t.low j)) :: .row 3 v71 (t.stk ++ [((dartsL E L v).getD i.toNat 0) / 2]) :: mapR Try.prog 3 pb iu :: .ro vd DL :: .ro u (dartsL E L v) :: tl) := H.drop 0
     refine q_list 8 2 [] [(0, pv fb), (1, iv v), (2, iv via), (9, iv (headE E ((dartsL E L v).getD i.toNat 0))), (43, u), (44, iv ((dartsL E L v).length : Int)), (45, iv i), (157, v71), (159, .pointer (some ⟨fb, 0 + 6, none⟩))] (TT ∧ (0 < Try.prog.cellsOf 27) ∧ True) hA H ⟨tv, by decide +kernel, tv⟩ fun a w73 hA H hG => ?_
     refine list_at 10 ?_; refine q_store 10 27 (.tmp 159) (.tmp 157) 0 fb (0 + 6) 106 [.int .i64 n, ve, vd, (.slice (some ⟨mb, 0, none⟩) n.toNat n.toNat), (.slice (some ⟨lb, 0, none⟩) n.toNat n.toNat), .int .i64 t.cnt, eu, (.map (some pb))] [v71] [.int .i64 n, ve, vd, (.slice (some ⟨mb, 0, none⟩) n.toNat n.toNat), (.slice (some ⟨lb, 0, none⟩) n.toNat n.toNat), .int .i64 t.cnt, v71, (.map (some pb))] v71 [(0, pv fb), (1, iv v), (2, iv via), (9, iv (headE E ((dartsL E L v).getD i.toNat 0))), (43, u), (44, iv ((dartsL E L v).length : Int)), (45, iv i)] hA H rfl (one_cells (rd_one (H.out 3 rfl))) (Nat.le_of_ble_eq_true (by kernel_rfl)) rfl (fun v hv => by simp only [List.mem_cons, List.not_mem_nil, or_false] at hv; rcases hv with rfl; exact (rd_one (H.out 3 rfl))) fun a w74 H hA hG => ?_
     replace H : Fr _ _ _ (.box fb 106 [.int .i64 n, ve, vd, (.slice (some ⟨mb, 0, none⟩) n.toNat n.toNat), (.slice (some ⟨lb, 0, none⟩) n.toNat n.toNat), .int .i64 t.cnt, v71, (.map (some pb))] :: .box mb 3 (arrV n fun j => .int .i64 (t.met j)) :: .box lb 3 (arrV n fun j => .int .i64 (t.low j)) :: .row 3 v71 (t.stk ++ [((dartsL E L v).getD i.toNat 0) / 2]) :: mapR Try.prog 3 pb iu :: .ro vd DL :: .ro u (dartsL E L v) :: tl) := H
     refine list_end ?_
     refine hK67 _ _ ?_
     have H0 := H
     have hM0 := H0.keeps none (.inl rfl)
     refine region_mix (But w74 none) [0, 1, 2, 3, 4, 5, 6, 7, 8, 9, 10, 11, 12, 13, 14, 15, 16, 17, 18, 19] 22 ?_
     replace H := H.drawn; have hD := But.drew w74 none
     generalize ({ w74 with drawn := w74.drawn + 1 } : World) = w75 at H hD ⊢
     refine m_take (n := 2) [0, 1, 2, 3, 4, 5, 6, 7, 8, 9, 10, 11, 12, 13, 14, 15, 16, 17, 18, 19] #[true, true, true, true, true, true, true, true, true, true, true, true, true, true, true, true, true, true, true, true, false, false] [(163, (.slice (some ⟨lb, 0, none⟩) n.toNat n.toNat)), (168, (.slice (some ⟨lb, 0, none⟩) n.toNat n.toNat)), (171, iv (t.low v)), (175, (.slice (some ⟨mb, 0, none⟩) n.toNat n.toNat)), (178, iv (t.met (headE E ((dartsL E L v).getD i.toNat 0)))), (179, iv (min (t.low v) (t.met (headE E ((dartsL E L v).getD i.toNat 0)))))] [(0, pv fb), (1, iv v), (2, iv via), (43, u), (44, iv ((dartsL E L v).length : Int)), (45, iv i), (163, (.slice (some ⟨lb, 0, none⟩) n.toNat n.toNat)), (164, iv v), (179, iv (min (t.low v) (t.met (headE E ((dartsL E L v).getD i.toNat 0)))))] (TT ∧ TT ∧ (0 < Try.prog.cellsOf 27) ∧ (CellOk (But w74 none) fb (0 + 4) ((.slice (some ⟨lb, 0, none⟩) n.toNat n.toNat))) ∧ TT ∧ TT ∧ TT ∧ (0 < Try.prog.cellsOf 27) ∧ (CellOk (But w74 none) fb (0 + 4) ((.slice (some ⟨lb, 0, none⟩) n.toNat n.toNat))) ∧ TT ∧ ((Try.prog.info? 3).isSome = true ∧ IdxOk (.slice (some ⟨lb, 0, none⟩) n.toNat n.toNat) v) ∧ (CellOk (But w74 none) lb (0 + v.toNat * 1) (.int .i64 (t.low v))) ∧ TT ∧ TT ∧ (0 < Try.prog.cellsOf 27) ∧ (CellOk (But w74 none) fb (0 + 3) ((.slice (some ⟨mb, 0, none⟩) n.toNat n.toNat))) ∧ TT ∧ ((Try.prog.info? 3).isSome = true ∧ IdxOk (.slice (some ⟨mb, 0, none⟩) n.toNat n.toNat) (headE E ((dartsL E L v).getD i.toNat 0))) ∧ (CellOk (But w74 none) mb (0 + (headE E ((dartsL E L v).getD i.toNat 0)).toNat * 1) (.int .i64 (t.met (headE E ((dartsL E L v).getD i.toNat 0))))) ∧ (∀ ty w, (Builtin.min_ #[3, 3] ty [.int .i64 (t.low v), .int .i64 (t.met (headE E ((dartsL E L v).getD i.toNat 0)))].toArray).run Try.prog w = .ok (.int .i64 (min (t.low v) (t.met (headE E ((dartsL E L v).getD i.toNat 0))))) w) ∧ True) hA hD ⟨tv, tv, by decide +kernel, by exact box_cellC (box_atC H0 none 0 rfl (fun e => by cases e)) 4, tv, tv, tv, by decide +kernel, by exact box_cellC (box_atC H0 none 0 rfl (fun e => by cases e)) 4, tv, ⟨by kernel_rfl, arr_idx (by omega) (by omega)⟩, by exact arr_cellC (box_atC H0 none 2 rfl (fun e => by cases e)) (by omega) (by omega), tv, tv, by decide +kernel, by exact box_cellC (box_atC H0 none 0 rfl (fun e => by cases e)) 3, tv, ⟨by kernel_rfl, arr_idx (by omega) (by omega)⟩, by exact arr_cellC (box_atC H0 none 1 rfl (fun e => by cases e)) (by omega) (by omega), fun ty w => min_ok ty w, tv⟩ fun a hA => ?_
     refine m_one 20 ?_; refine q_one 20 [] [(0, pv fb), (1, iv v), (2, iv via), (43, u), (44, iv ((dartsL E L v).length : Int)), (45, iv i), (179, iv (min (t.low v) (t.met (headE E ((dartsL E L v).getD i.toNat 0))))), (180, .pointer (some ⟨lb, 0 + v.toNat * 1, none⟩))] (((Try.prog.info? 3).isSome = true ∧ IdxOk (.slice (some ⟨lb, 0, none⟩) n.toNat n.toNat) v) ∧ True) hA H ⟨⟨by kernel_rfl, arr_idx (by omega) (by omega)⟩, tv⟩ fun a w76 H hA hG => ?_
     refine ⟨fun h => absurd h (by decide), ?_⟩
     refine m_one 21 ?_; refine q_store 21 3 (.tmp 180) (.tmp 179) 2 lb (0 + v.toNat * 1) 3 ((arrV n fun j => .int .i64 (t.low j))) [.int .i64 (min (t.low v) (t.met (headE E ((dartsL E L v).getD i.toNat 0))))] ((arrV n fun j => .int .i64 ((Deep.upd t.low v (min (t.low v) (t.met (headE E ((dartsL E L v).getD i.toNat 0))))) j))) (.int .i64 (min (t.low v) (t.met (headE E ((dartsL E L v).getD i.toNat 0))))) [(0, pv fb), (1, iv v), (2, iv via), (43, u), (44, iv ((dartsL E L v).length : Int)), (45, iv i)] hA H rfl rfl (arr_room (by omega) (by omega)) (arr_set (by omega) (by omega) (congrArg (Value.int .i64) (Deep.upd_same _ _ _)) (fun j hj => congrArg (Value.int .i64) (Deep.upd_ne _ _ hj))) (fun v hv => by simp only [List.mem_cons, List.not_mem_nil, or_false] at hv; rcases hv with rfl; exact rfl) fun a w77 H hA hG => ?_
     replace H : Fr _ _ _ (.box fb 106 [.int .i64 n, ve, vd, (.slice (some ⟨mb, 0, none⟩) n.toNat n.toNat), (.slice (some ⟨lb, 0, none⟩) n.toNat n.toNat), .int .i64 t.cnt, v71, (.map (some pb))] :: .box mb 3 (arrV n fun j => .int .i64 (t.met j)) :: .box lb 3 (arrV n fun j => .int .i64 ((Deep.upd t.low v (min (t.low v) (t.met (headE E ((dartsL E L v).getD i.toNat 0))))) j)) :: .row 3 v71 (t.stk ++ [((dartsL E L v).getD i.toNat 0) / 2]) :: mapR Try.prog 3 pb iu :: .ro vd DL :: .ro u (dartsL E L v) :: tl) := H
     refine ⟨fun h => absurd h (by decide), ?_⟩
     refine m_end ?_
     refine hK17 _ _ ?_
     refine q_reg [] [(0, pv fb), (1, iv v), (2, iv via), (43, u), (44, iv ((dartsL E L v).length : Int)), (45, iv (i + 1))] ((InR .i64 (i + 1)) ∧ TT ∧ True) hA H ⟨⟨by omega, by omega⟩, tv, tv⟩ fun a w78 hA H hG => ?_
     refine ⟨(i + 1, { t with stk := t.stk ++ [((dartsL E L v).getD i.toNat 0) / 2], low := Deep.upd t.low v (min (t.low v) (t.met (headE E ((dartsL E L v).getD i.toNat 0)))) }, v71, iu), ⟨env_sub _ hA, ⟨_, H⟩, ?_⟩, ?_⟩
     · (try dsimp only); exact ⟨by omega, hc, Deep.steps_back hst hhb24 hhb33 hhb37 hhb66, hit⟩
     (try dsimp only); omega
   have hhb66 := of_decide_eq_false hb66
   refine go_skip ?_
   refine hK17 _ _ ?_
   refine q_reg [] [(0, pv fb), (1, iv v), (2, iv via), (43, u), (44, iv ((dartsL E L v).length : Int)), (45, iv (i + 1))] ((InR .i64 (i + 1)) ∧ TT ∧ True) hA H ⟨⟨by omega, by omega⟩, tv, tv⟩ fun a w79 hA H hG => ?_
   refine ⟨(i + 1, t, eu, iu), ⟨env_sub _ hA, ⟨_, H⟩, ?_⟩, ?_⟩
   · (try dsimp only); exact ⟨by omega, hc, Deep.steps_skip hst hhb24 hhb33 hhb37 hhb66, hit⟩
   (try dsimp only); omega
 have hhb16 := of_decide_eq_false hb16
 refine go_exit 0 ?_
 refine ret_noneN (P := Try.prog) (fn := Try.f102) (R := (FinQ n ve vd DL fb mb lb pb s' tl o w)) hA ?_
 rw [drop_end (by omega)] at hst; cases Deep.steps_nil hst
 replace H := H.drop 6
 exact ⟨rfl, _, _, _, H, hit⟩
theorem visit_any (n : Int) (ve : Value) (E : List (Int × Int)) (L : List Int) (vd : Value) (DL : List (List Int)) (fb mb lb pb : Nat) (o : Orig)  (hr : rightE n E = 0) (hL : risesP L (E.length : Int)) (hE : Rd (· < o.w.heap.size) o.w ve E) (hDL : ∀ x, 0 ≤ x → x < n → DL.getD x.toNat [] = dartsL E L x) (hDLn : (DL.length : Int) = n) : ∀ (h : Nat) (w : World) (S : Stab) (s s' : Deep.St) (v via : Int) (ev : Value) (ins : List (Int × Value × List Int)) (tl : List Res), Deep.Visit (dartsL E L) (headE E) h v via s s' → Deep.Bd s' → 0 ≤ s.cnt → 0 ≤ v → v < n → Fr o w S (finR n ve vd DL fb mb lb pb s ev ins tl) → insOf ins = s.ins → Calls Try.prog 102 [.pointer (some ⟨fb, 0, none⟩), .int .i64 v, .int .i64 via].toArray w (FinQ n ve vd DL fb mb lb pb s' tl o w) := by
 intro h
 induction h with
 | zero => intro w S s s' v via ev ins tl hv; exact hv.elim
 | succ h ih =>
   intro w S s s' v via ev ins tl hv hb hc0 hv0 hv1 hH hi
   exact visit_step n ve E L vd DL fb mb lb pb h o S s ev ins tl s' v via w hr hL hE hDL hDLn ih hv hb hc0 hv0 hv1 hH hi
theorem find_any (n : Int) (ve : Value) (E : List (Int × Int)) (vv vl : Value) (V L : List Int) (o : Orig) (S : Stab) (s' : Deep.St) (tl : List Res) (w : World) (hpt : partE n E V L = 0) (hE : Rd (· < o.w.heap.size) o.w ve E) (hV : Rd (· < o.w.heap.size) o.w vv V) (hL : Rd (· < o.w.heap.size) o.w vl L) (hH : Fr o w S tl) (hroots : Deep.Roots (dartsL E L) (headE E) V Deep.St.zero s') (hb : Deep.Bd s') :
 Calls Try.prog 80 [.agg #[.int .i64 n, ve], .agg #[vv, vl]].toArray w (fun e w' => ∃ fb mb lb pb vd DL S ev ins, e = .returned (.pointer (some ⟨fb, 0, none⟩)) ∧ Fr o w' S (finR n ve vd DL fb mb lb pb s' ev ins tl) ∧ insOf ins = s'.ins) := by
 obtain ⟨hp1, hp2, hp3, hp4⟩ := partE_0 hpt
 have hr9 := rightE_0 hp1
 have hl9 := rises_len hp3 (by omega)
 have hv9 := rises_len hp2 (by omega)
 refine enter Try.f80 100 Try.func80 fun a hA => ?_
 replace hA := env_sub [(0, .agg #[.int .i64 n, ve]), (1, .agg #[vv, vl])] hA
 have H := hH
 refine go_seq fun K1 hK1 => ?_
 refine region_list ?_
 refine list_at 0 ?_; refine q_box 0 2 24 (.tmp 0) (.agg #[.int .i64 n, ve]) [.int .i64 n, ve] [(1, .agg #[vv, vl])] hA H fun b2 a w3 H hA hG hge_b2 => ?_
 clear hge_b2
 refine list_at 1 ?_; refine q_box 1 3 29 (.tmp 1) (.agg #[vv, vl]) [vv, vl] [(2, pv b2)] hA H fun b4 a w5 H hA hG hge_b4 => ?_
 clear hge_b4
 refine q_list 2 1 [] [(2, pv b2), (3, pv b4)] (TT ∧ True) hA H ⟨tv, tv⟩ fun a w6 hA H hG => ?_
 refine list_end ?_
 refine hK1 _ _ ?_
 refine go_seq fun K7 hK7 => ?_
 have H0 := H
 have hM0 := H0.keeps none (.inl rfl)
 refine region_mix (But w6 none) [0, 1, 2, 3, 4, 5, 6, 7, 8, 9, 10, 11, 12] 14 ?_
 replace H := H.drawn; have hD := But.drew w6 none
 generalize ({ w6 with drawn := w6.drawn + 1 } : World) = w8 at H hD ⊢
 refine m_take (n := 7) [0, 1, 2, 4, 5, 7, 8] #[true, true, true, false, true, true, false, true, true, false, false, false, false, false] [(12, .agg #[.int .i64 n, ve]), (14, iv n), (17, iv n), (20, iv n)] [(2, pv b2), (3, pv b4), (12, .agg #[.int .i64 n, ve]), (14, iv n), (17, iv n), (20, iv n)] (((Try.prog.info? 24).isSome = true ∧ RowOk (But w6 none) b2 (0) (Try.prog.cellsOf 24) #[.int .i64 n, ve]) ∧ (0 < Try.prog.cellsOf 3) ∧ (CellOk (But w6 none) b2 (0 + 0) (.int .i64 n)) ∧ (0 < Try.prog.cellsOf 3) ∧ (CellOk (But w6 none) b2 (0 + 0) (.int .i64 n)) ∧ (0 < Try.prog.cellsOf 3) ∧ (CellOk (But w6 none) b2 (0 + 0) (.int .i64 n)) ∧ True) hA hD ⟨⟨by kernel_rfl, by exact box_rowC (box_atC H0 none 1 rfl (fun e => by cases e)) 0 2⟩, by decide +kernel, by exact box_cellC (box_atC H0 none 1 rfl (fun e => by cases e)) 0, by decide +kernel, by exact box_cellC (box_atC H0 none 1 rfl (fun e => by cases e)) 0, by decide +kernel, by exact box_cellC (box_atC H0 none 1 rfl (fun e => by cases e)) 0, tv⟩ fun a hA => ?_
 refine mix_gen fun M hM => ?_
 have hM75 : ∀ (a : Act) (w92 : World) (S : Stab) (b9 : Nat) (hge_b9 : w6.heap.size ≤ b9) (b17 : Nat) (hge_b17 : w6.heap.size ≤ b17) (b41 : Nat) (hge_b41 : w6.heap.size ≤ b41) (b65 : Nat) (hge_b65 : w6.heap.size ≤ b65) (b73 : Nat) (hge_b73 : w6.heap.size ≤ b73), EnvOk 100 a (keepEnv [(2, pv b2), (3, pv b4), (24, pv b73)]) → Fr o w92 S (.box b73 106 [.int .i64 n, ve, (.slice (some ⟨b9, 0, none⟩) n.toNat n.toNat), (.slice (some ⟨b17, 0, none⟩) n.toNat n.toNat), (.slice (some ⟨b41, 0, none⟩) n.toNat n.toNat), .int .i64 0, (.slice none 0 0), (.map (some b65))] :: mapR Try.prog 3 (α := List (Int)) b65 [] :: .box b41 3 (arrV n fun j => .int .i64 (Deep.St.zero.low j)) :: .box b17 3 (arrV n fun j => .int .i64 (Deep.St.zero.met j)) :: .box b9 27 (arrV n (fun _ => .slice none 0 0)) :: .box b4 29 [vv, vl] :: .box b2 24 [.int .i64 n, ve] :: tl) → But w6 none w92 → M 1 #[true, true, true, true, true, true, true, true, true, true, true, true, true, false] a w92 := by
   intro a w92 S b9 hge_b9 b17 hge_b17 b41 hge_b41 b65 hge_b65 b73 hge_b73 hA H hD
   refine (hM _ _ _ _).2 ?_
   refine m_one 13 ?_; refine q_one 13 [] [(2, pv b2), (3, pv b4), (5, pv b73)] (TT ∧ True) hA H ⟨tv, tv⟩ fun a w93 H hA hG => ?_
   refine ⟨fun h => absurd h (by decide), ?_⟩
   refine m_end ?_
   refine hK7 _ _ ?_
   refine go_seq fun K94 hK94 => ?_
   refine go_seq fun K95 hK95 => ?_
   replace H := H.newRow (α := Int) 3
   replace H := Fr.order [.row 3 (.slice none 0 0) ([] : List Int), .box b73 106 [.int .i64 n, ve, (.slice (some ⟨b9, 0, none⟩) n.toNat n.toNat), (.slice (some ⟨b17, 0, none⟩) n.toNat n.toNat), (.slice (some ⟨b41, 0, none⟩) n.toNat n.toNat), .int .i64 0, (.slice none 0 0), (.map (some b65))], mapR Try.prog 3 (α := List (Int)) b65 [], .box b41 3 (arrV n fun j => .int .i64 (Deep.St.zero.low j)), .box b17 3 (arrV n fun j => .int .i64 (Deep.St.zero.met j)), .box b9 27 (arrV n (fun _ => .slice none 0 0)), .box b4 29 [vv, vl], .box b2 24 [.int .i64 n, ve]] tl H [1, 4, 3, 0, 2, 5, 6, 7] (by show List.Perm _ (List.range 8); decide)
   replace H : Fr _ _ _ (.box b73 106 [.int .i64 n, ve, (.slice (some ⟨b9, 0, none⟩) n.toNat n.toNat), (.slice (some ⟨b17, 0, none⟩) n.toNat n.toNat), (.slice (some ⟨b41, 0, none⟩) n.toNat n.toNat), .int .i64 0, (.slice none 0 0), (.map (some b65))] :: .box b17 3 (arrV n fun j => .int .i64 (Deep.St.zero.met j)) :: .box b41 3 (arrV n fun j => .int .i64 (Deep.St.zero.low j)) :: .row 3 (.slice none 0 0) ([] : List Int) :: mapR Try.prog 3 (α := List (Int)) b65 [] :: .box b9 27 (arrV n (fun _ => .slice none 0 0)) :: .box b4 29 [vv, vl] :: .box b2 24 [.int .i64 n, ve] :: tl) := H
   replace H := rows_new ([.box b73 106 [.int .i64 n, ve, (.slice (some ⟨b9, 0, none⟩) n.toNat n.toNat), (.slice (some ⟨b17, 0, none⟩) n.toNat n.toNat), (.slice (some ⟨b41, 0, none⟩) n.toNat n.toNat), .int .i64 0, (.slice none 0 0), (.map (some b65))], .box b17 3 (arrV n fun j => .int .i64 (Deep.St.zero.met j)), .box b41 3 (arrV n fun j => .int .i64 (Deep.St.zero.low j)), .row 3 (.slice none 0 0) ([] : List Int), mapR Try.prog 3 (α := List (Int)) b65 [], .box b9 27 (arrV n (fun _ => .slice none 0 0)), .box b4 29 [vv, vl], .box b2 24 [.int .i64 n, ve]] ++ tl) H n
   replace H : Fr _ _ _ (.box b73 106 [.int .i64 n, ve, (.slice (some ⟨b9, 0, none⟩) n.toNat n.toNat), (.slice (some ⟨b17, 0, none⟩) n.toNat n.toNat), (.slice (some ⟨b41, 0, none⟩) n.toNat n.toNat), .int .i64 0, (.slice none 0 0), (.map (some b65))] :: .box b17 3 (arrV n fun j => .int .i64 (Deep.St.zero.met j)) :: .box b41 3 (arrV n fun j => .int .i64 (Deep.St.zero.low j)) :: .row 3 (.slice none 0 0) ([] : List Int) :: mapR Try.prog 3 (α := List (Int)) b65 [] :: .box b9 27 (arrV n (fun _ => .slice none 0 0)) :: .box b4 29 [vv, vl] :: .box b2 24 [.int .i64 n, ve] :: (tl ++ rowsT n (fun _ => .slice none 0 0) (fun _ => []))) := H
   refine q_reg [(26, vl), (27, iv (L.length : Int))] [(2, pv b2), (3, pv b4), (5, pv b73), (26, vl), (27, iv (L.length : Int)), (28, iv 0)] ((0 < Try.prog.cellsOf 27) ∧ (CellOk (On w93) b4 (0 + 1) (vl)) ∧ (LenOk vl (L.length : Int)) ∧ TT ∧ True) hA H ⟨by decide +kernel, by exact box_cell H 6 rfl 1, by exact len_ok (H.arg hL), tv, tv⟩ fun a w96 hA H hG => ?_
   refine hK95 _ _ ?_
   refine go_block 0 ?_
   refine go_loop_ (Int × (Int → Value) × (Int → List Int)) (fun x_ a W => (fun (i : Int) (vs : (Int → Value)) (ls : (Int → List Int)) => EnvOk 100 a (keepEnv [(2, pv b2), (3, pv b4), (5, pv b73), (26, vl), (27, iv (L.length : Int)), (28, iv i)]) ∧ (∃ S, Fr o W S (.box b73 106 [.int .i64 n, ve, (.slice (some ⟨b9, 0, none⟩) n.toNat n.toNat), (.slice (some ⟨b17, 0, none⟩) n.toNat n.toNat), (.slice (some ⟨b41, 0, none⟩) n.toNat n.toNat), .int .i64 0, (.slice none 0 0), (.map (some b65))] :: .box b17 3 (arrV n fun j => .int .i64 (Deep.St.zero.met j)) :: .box b41 3 (arrV n fun j => .int .i64 (Deep.St.zero.low j)) :: .row 3 (.slice none 0 0) ([] : List Int) :: mapR Try.prog 3 (α := List (Int)) b65 [] :: .box b9 27 (arrV n vs) :: .box b4 29 [vv, vl] :: .box b2 24 [.int .i64 n, ve] :: (tl ++ rowsT n vs ls))) ∧ 0 ≤ i ∧ (∀ x, 0 ≤ x → x < n → ls x = dartsL E (L.take i.toNat) x) ∧ ∀ x, ((ls x).length : Int) ≤ 2 * i) x_.1 x_.2.1 x_.2.2) (fun x_ => (fun (i : Int) (vs : (Int → Value)) (ls : (Int → List Int)) => ((L.length : Int) - i).toNat) x_.1 x_.2.1 x_.2.2) (0, (fun _ => .slice none 0 0), (fun _ => [])) ?_ (fun x_ a w98 hI => ?_)
   · (try dsimp only); exact ⟨env_sub _ hA, ⟨_, H⟩, by omega, fun x _ _ => rfl, fun x => by simp⟩
   obtain ⟨i, vs, ls⟩ := x_
   obtain ⟨hA, ⟨S, H⟩, h0, hls, hll⟩ := hI
   try dsimp only at h0 hls hll
   replace H : Fr _ _ _ (.box b73 106 [.int .i64 n, ve, (.slice (some ⟨b9, 0, none⟩) n.toNat n.toNat), (.slice (some ⟨b17, 0, none⟩) n.toNat n.toNat), (.slice (some ⟨b41, 0, none⟩) n.toNat n.toNat), .int .i64 0, (.slice none 0 0), (.map (some b65))] :: .box b17 3 (arrV n fun j => .int .i64 (Deep.St.zero.met j)) :: .box b41 3 (arrV n fun j => .int .i64 (Deep.St.zero.low j)) :: .row 3 (.slice none 0 0) ([] : List Int) :: mapR Try.prog 3 (α := List (Int)) b65 [] :: .box b9 27 (arrV n vs) :: .box b4 29 [vv, vl] :: .box b2 24 [.int .i64 n, ve] :: (tl ++ rowsT n vs ls)) := H
   refine go_seq fun K99 hK99 => ?_
   refine q_reg [] [(2, pv b2), (3, pv b4), (5, pv b73), (26, vl), (27, iv (L.length : Int)), (28, iv i), (29, .bool (decide (i < (L.length : Int))))] (TT ∧ True) hA H ⟨tv, tv⟩ fun a w100 hA H hG => ?_
   refine hK99 _ _ ?_
   refine go_seq fun K101 hK101 => ?_
   refine go_cond hA (.tmp 29) (decide (i < (L.length : Int))) (fun hb102 => ?_) (fun hb102 => ?_)
   · have hhb102 := of_decide_eq_true hb102
     refine go_skip ?_
     refine hK101 _ _ ?_
     refine go_seq fun K103 hK103 => ?_
     refine go_block 1 ?_
     refine go_seq fun K104 hK104 => ?_
     refine q_reg [(31, iv (L.getD i.toNat 0))] [(2, pv b2), (3, pv b4), (5, pv b73), (7, iv (L.getD i.toNat 0)), (26, vl), (27, iv (L.length : Int)), (28, iv i)] (((Try.prog.info? 3).isSome = true ∧ IdxOk vl i) ∧ (CellOk (On w100) (hdB vl) (hdO vl + i.toNat * 1) (.int .i64 (L.getD i.toNat 0))) ∧ TT ∧ True) hA H ⟨⟨by kernel_rfl, by exact idx_ok (H.arg hL) (by omega) (by omega)⟩, by exact cell_flat (i := i) (H.arg hL) (by omega) (by omega) 0 0, tv, tv⟩ fun a w105 hA H hG => ?_
     refine hK104 _ _ ?_
     refine go_seq fun K106 hK106 => ?_
     have hx := hp3 i.toNat (by omega)
     have hok := okEs_at hr9.2.2.2 hx.1 hx.2.1
     unfold okE at hok
     refine q_draw [(33, ve), (37, iv ((E.getD (L.getD i.toNat 0).toNat (0, 0)).1)), (39, ve), (43, iv ((E.getD (L.getD i.toNat 0).toNat (0, 0)).2))] [(2, pv b2), (3, pv b4), (5, pv b73), (7, iv (L.getD i.toNat 0)), (8, iv ((E.getD (L.getD i.toNat 0).toNat (0, 0)).1)), (9, iv ((E.getD (L.getD i.toNat 0).toNat (0, 0)).2)), (26, vl), (27, iv (L.length : Int)), (28, iv i)] ((0 < Try.prog.cellsOf 22) ∧ (CellOk (On w105) b2 (0 + 1) (ve)) ∧ TT ∧ ((Try.prog.info? 99).isSome = true ∧ IdxOk ve (L.getD i.toNat 0)) ∧ (0 < Try.prog.cellsOf 3) ∧ (CellOk (On w105) (hdB ve) (hdO ve + (L.getD i.toNat 0).toNat * 2 + 0) (.int .i64 ((E.getD (L.getD i.toNat 0).toNat (0, 0)).1))) ∧ (0 < Try.prog.cellsOf 22) ∧ (CellOk (On w105) b2 (0 + 1) (ve)) ∧ TT ∧ ((Try.prog.info? 99).isSome = true ∧ IdxOk ve (L.getD i.toNat 0)) ∧ (0 < Try.prog.cellsOf 3) ∧ (CellOk (On w105) (hdB ve) (hdO ve + (L.getD i.toNat 0).toNat * 2 + 1) (.int .i64 ((E.getD (L.getD i.toNat 0).toNat (0, 0)).2))) ∧ TT ∧ TT ∧ True) hA H ⟨by decide +kernel, by exact box_cell H 7 rfl 1, tv, ⟨by kernel_rfl, by exact idx_ok (H.arg hE) (by omega) (by omega)⟩, by decide +kernel, by exact cell_flat (i := (L.getD i.toNat 0)) (H.arg hE) (by omega) (by omega) (0, 0) 0, by decide +kernel, by exact box_cell H 7 rfl 1, tv, ⟨by kernel_rfl, by exact idx_ok (H.arg hE) (by omega) (by omega)⟩, by decide +kernel, by exact cell_flat (i := (L.getD i.toNat 0)) (H.arg hE) (by omega) (by omega) (0, 0) 1, tv, tv, tv⟩ fun a w107 hA H hG => ?_
     refine hK106 _ _ ?_
     refine go_seq fun K108 hK108 => ?_
     generalize ha9 : (E.getD (L.getD i.toNat 0).toNat (0, 0)).1 = ua at hA hok
     generalize hb9 : (E.getD (L.getD i.toNat 0).toNat (0, 0)).2 = ub at hA hok
     have hlla := hll ua
     replace H := rows_out (a := ua) ([.box b73 106 [.int .i64 n, ve, (.slice (some ⟨b9, 0, none⟩) n.toNat n.toNat), (.slice (some ⟨b17, 0, none⟩) n.toNat n.toNat), (.slice (some ⟨b41, 0, none⟩) n.toNat n.toNat), .int .i64 0, (.slice none 0 0), (.map (some b65))], .box b17 3 (arrV n fun j => .int .i64 (Deep.St.zero.met j)), .box b41 3 (arrV n fun j => .int .i64 (Deep.St.zero.low j)), .row 3 (.slice none 0 0) ([] : List Int), mapR Try.prog 3 (α := List (Int)) b65 [], .box b9 27 (arrV n vs), .box b4 29 [vv, vl], .box b2 24 [.int .i64 n, ve]] ++ tl) H (by omega) (by omega)
     replace H : Fr _ _ _ (.row 3 (vs ua) (ls ua) :: .box b73 106 [.int .i64 n, ve, (.slice (some ⟨b9, 0, none⟩) n.toNat n.toNat), (.slice (some ⟨b17, 0, none⟩) n.toNat n.toNat), (.slice (some ⟨b41, 0, none⟩) n.toNat n.toNat), .int .i64 0, (.slice none 0 0), (.map (some b65))] :: .box b17 3 (arrV n fun j => .int .i64 (Deep.St.zero.met j)) :: .box b41 3 (arrV n fun j => .int .i64 (Deep.St.zero.low j)) :: .row 3 (.slice none 0 0) ([] : List Int) :: mapR Try.prog 3 (α := List (Int)) b65 [] :: .box b9 27 (arrV n vs) :: .box b4 29 [vv, vl] :: .box b2 24 [.int .i64 n, ve] :: (tl ++ (rowsT n vs ls).eraseIdx ua.toNat)) := H
     have H0 := H
     have hM0 := H0.keeps ((vs ua).ownBlock) (.inr ⟨_, List.mem_of_getElem? (i := 0) rfl, rfl⟩)
     refine region_mix (But w107 ((vs ua).ownBlock)) [0, 1, 2, 3, 4, 5, 6, 7, 8, 9, 10, 11, 12, 13, 14, 15] 18 ?_
     replace H := H.drawn; have hD := But.drew w107 ((vs ua).ownBlock)
     generalize ({ w107 with drawn := w107.drawn + 1 } : World) = w109 at H hD ⊢
     refine m_take (n := 4) [0, 1, 2, 3, 4, 5, 6, 7, 8, 9, 10, 11, 12, 13] #[true, true, true, true, true, true, true, true, true, true, true, true, true, true, false, false, false, false] [(47, (.slice (some ⟨b9, 0, none⟩) n.toNat n.toNat)), (52, (.slice (some ⟨b9, 0, none⟩) n.toNat n.toNat)), (55, (vs ua))] [(2, pv b2), (3, pv b4), (5, pv b73), (7, iv (L.getD i.toNat 0)), (9, iv ub), (26, vl), (27, iv (L.length : Int)), (28, iv i), (47, (.slice (some ⟨b9, 0, none⟩) n.toNat n.toNat)), (48, iv ua), (55, (vs ua)), (57, iv (2 * (L.getD i.toNat 0)))] (TT ∧ TT ∧ (0 < Try.prog.cellsOf 67) ∧ (CellOk (But w107 ((vs ua).ownBlock)) b73 (0 + 2) ((.slice (some ⟨b9, 0, none⟩) n.toNat n.toNat))) ∧ TT ∧ TT ∧ TT ∧ (0 < Try.prog.cellsOf 67) ∧ (CellOk (But w107 ((vs ua).ownBlock)) b73 (0 + 2) ((.slice (some ⟨b9, 0, none⟩) n.toNat n.toNat))) ∧ TT ∧ ((Try.prog.info? 27).isSome = true ∧ IdxOk (.slice (some ⟨b9, 0, none⟩) n.toNat n.toNat) ua) ∧ (CellOk (But w107 ((vs ua).ownBlock)) b9 (0 + ua.toNat * 1) ((vs ua))) ∧ TT ∧ (InR .i64 (2 * (L.getD i.toNat 0))) ∧ True) hA hD ⟨tv, tv, by decide +kernel, by exact box_cellC (box_atC H0 ((vs ua).ownBlock) 1 rfl (H0.apart 1 0 (by decide) rfl rfl rfl)) 2, tv, tv, tv, by decide +kernel, by exact box_cellC (box_atC H0 ((vs ua).ownBlock) 1 rfl (H0.apart 1 0 (by decide) rfl rfl rfl)) 2, tv, ⟨by kernel_rfl, arr_idx (by omega) (by omega)⟩, by exact arr_cellC (box_atC H0 ((vs ua).ownBlock) 6 rfl (H0.apart 6 0 (by decide) rfl rfl rfl)) (by omega) (by omega), tv, ⟨by omega, by omega⟩, tv⟩ fun a hA => ?_
     refine m_one 14 ?_; refine q_lit 14 58 27 1 #[(0, .tmp 57)] 3 [(0, iv (2 * (L.getD i.toNat 0)))] [.int .i64 (2 * (L.getD i.toNat 0))] [(2, pv b2), (3, pv b4), (5, pv b73), (7, iv (L.getD i.toNat 0)), (9, iv ub), (26, vl), (27, iv (L.length : Int)), (28, iv i), (47, (.slice (some ⟨b9, 0, none⟩) n.toNat n.toNat)), (48, iv ua), (55, (vs ua))] hA H fun b110 a w111 H hA hG hge_b110 => ?_
     replace hge_b110 := Nat.le_trans hD.1 hge_b110
     replace hD := hD.below hG
     refine ⟨fun _ => hD, ?_⟩
     refine m_one 15 ?_; refine q_push 15 59 (.tmp 55) (.tmp 58) 1 0 b110 1 1 (vs ua) (ls ua) [2 * (L.getD i.toNat 0)] [.int .i64 (2 * (L.getD i.toNat 0))] [(2, pv b2), (3, pv b4), (5, pv b73), (7, iv (L.getD i.toNat 0)), (9, iv ub), (26, vl), (27, iv (L.length : Int)), (28, iv i), (47, (.slice (some ⟨b9, 0, none⟩) n.toNat n.toNat)), (48, iv ua)] hA H Try.E27 rfl rfl (by exact (RowRd.single (α := Int) rfl)) rfl (by simp only [List.length_cons, List.length_nil, List.length_append]; omega) (by decide) fun v112 a w113 H hA hG => ?_
     replace H : Fr _ _ _ (.row 3 v112 ((ls ua) ++ [2 * (L.getD i.toNat 0)]) :: .box b73 106 [.int .i64 n, ve, (.slice (some ⟨b9, 0, none⟩) n.toNat n.toNat), (.slice (some ⟨b17, 0, none⟩) n.toNat n.toNat), (.slice (some ⟨b41, 0, none⟩) n.toNat n.toNat), .int .i64 0, (.slice none 0 0), (.map (some b65))] :: .box b17 3 (arrV n fun j => .int .i64 (Deep.St.zero.met j)) :: .box b41 3 (arrV n fun j => .int .i64 (Deep.St.zero.low j)) :: .row 3 (.slice none 0 0) ([] : List Int) :: mapR Try.prog 3 (α := List (Int)) b65 [] :: .box b9 27 (arrV n vs) :: .box b4 29 [vv, vl] :: .box b2 24 [.int .i64 n, ve] :: (tl ++ (rowsT n vs ls).eraseIdx ua.toNat)) := H.drop 0
     replace hD := hD.grown hG (fun b hb => .inl hb.symm)
     refine ⟨fun _ => hD, ?_⟩
     refine m_one 16 ?_; refine q_one 16 [] [(2, pv b2), (3, pv b4), (5, pv b73), (7, iv (L.getD i.toNat 0)), (9, iv ub), (26, vl), (27, iv (L.length : Int)), (28, iv i), (59, v112), (60, .pointer (some ⟨b9, 0 + ua.toNat * 1, none⟩))] (((Try.prog.info? 27).isSome = true ∧ IdxOk (.slice (some ⟨b9, 0, none⟩) n.toNat n.toNat) ua) ∧ True) hA H ⟨⟨by kernel_rfl, arr_idx (by omega) (by omega)⟩, tv⟩ fun a w114 H hA hG => ?_
     refine ⟨fun h => absurd h (by decide), ?_⟩
     refine m_one 17 ?_; refine q_store 17 27 (.tmp 60) (.tmp 59) 6 b9 (0 + ua.toNat * 1) 27 ((arrV n vs)) [v112] ((arrV n (updF vs ua v112))) v112 [(2, pv b2), (3, pv b4), (5, pv b73), (7, iv (L.getD i.toNat 0)), (9, iv ub), (26, vl), (27, iv (L.length : Int)), (28, iv i)] hA H rfl (one_cells (rd_one (H.out 0 rfl))) (arr_room (by omega) (by omega)) (arr_set (by omega) (by omega) (updF_same _ _ _) (fun j hj => updF_ne _ _ hj)) (fun v hv => by simp only [List.mem_cons, List.not_mem_nil, or_false] at hv; rcases hv with rfl; exact (rd_one (H.out 0 rfl))) fun a w115 H hA hG => ?_
     replace H : Fr _ _ _ (.row 3 v112 ((ls ua) ++ [2 * (L.getD i.toNat 0)]) :: .box b73 106 [.int .i64 n, ve, (.slice (some ⟨b9, 0, none⟩) n.toNat n.toNat), (.slice (some ⟨b17, 0, none⟩) n.toNat n.toNat), (.slice (some ⟨b41, 0, none⟩) n.toNat n.toNat), .int .i64 0, (.slice none 0 0), (.map (some b65))] :: .box b17 3 (arrV n fun j => .int .i64 (Deep.St.zero.met j)) :: .box b41 3 (arrV n fun j => .int .i64 (Deep.St.zero.low j)) :: .row 3 (.slice none 0 0) ([] : List Int) :: mapR Try.prog 3 (α := List (Int)) b65 [] :: .box b9 27 (arrV n (updF vs ua v112)) :: .box b4 29 [vv, vl] :: .box b2 24 [.int .i64 n, ve] :: (tl ++ (rowsT n vs ls).eraseIdx ua.toNat)) := H
     refine ⟨fun h => absurd h (by decide), ?_⟩
     refine m_end ?_
     refine hK108 _ _ ?_
     replace H := rows_in (a := ua) ([.box b73 106 [.int .i64 n, ve, (.slice (some ⟨b9, 0, none⟩) n.toNat n.toNat), (.slice (some ⟨b17, 0, none⟩) n.toNat n.toNat), (.slice (some ⟨b41, 0, none⟩) n.toNat n.toNat), .int .i64 0, (.slice none 0 0), (.map (some b65))], .box b17 3 (arrV n fun j => .int .i64 (Deep.St.zero.met j)), .box b41 3 (arrV n fun j => .int .i64 (Deep.St.zero.low j)), .row 3 (.slice none 0 0) ([] : List Int), mapR Try.prog 3 (α := List (Int)) b65 [], .box b9 27 (arrV n (updF vs ua v112)), .box b4 29 [vv, vl], .box b2 24 [.int .i64 n, ve]] ++ tl) H (by omega) (by omega)
     replace H : Fr _ _ _ (.box b73 106 [.int .i64 n, ve, (.slice (some ⟨b9, 0, none⟩) n.toNat n.toNat), (.slice (some ⟨b17, 0, none⟩) n.toNat n.toNat), (.slice (some ⟨b41, 0, none⟩) n.toNat n.toNat), .int .i64 0, (.slice none 0 0), (.map (some b65))] :: .box b17 3 (arrV n fun j => .int .i64 (Deep.St.zero.met j)) :: .box b41 3 (arrV n fun j => .int .i64 (Deep.St.zero.low j)) :: .row 3 (.slice none 0 0) ([] : List Int) :: mapR Try.prog 3 (α := List (Int)) b65 [] :: .box b9 27 (arrV n (updF vs ua v112)) :: .box b4 29 [vv, vl] :: .box b2 24 [.int .i64 n, ve] :: (tl ++ rowsT n (updF vs ua v112) (updF ls ua ((ls ua) ++ [2 * (L.getD i.toNat 0)])))) := H
     have hllb : (((updF ls ua ((ls ua) ++ [2 * (L.getD i.toNat 0)])) ub).length : Int) ≤ 2 * i + 1 := by unfold updF; split <;> (try simp only [List.length_append, List.length_cons, List.length_nil]) <;> (have := hll ua; have := hll ub; omega)
     replace H := rows_out (a := ub) ([.box b73 106 [.int .i64 n, ve, (.slice (some ⟨b9, 0, none⟩) n.toNat n.toNat), (.slice (some ⟨b17, 0, none⟩) n.toNat n.toNat), (.slice (some ⟨b41, 0, none⟩) n.toNat n.toNat), .int .i64 0, (.slice none 0 0), (.map (some b65))], .box b17 3 (arrV n fun j => .int .i64 (Deep.St.zero.met j)), .box b41 3 (arrV n fun j => .int .i64 (Deep.St.zero.low j)), .row 3 (.slice none 0 0) ([] : List Int), mapR Try.prog 3 (α := List (Int)) b65 [], .box b9 27 (arrV n (updF vs ua v112)), .box b4 29 [vv, vl], .box b2 24 [.int .i64 n, ve]] ++ tl) H (by omega) (by omega)
     replace H : Fr _ _ _ (.row 3 ((updF vs ua v112) ub) ((updF ls ua ((ls ua) ++ [2 * (L.getD i.toNat 0)])) ub) :: .box b73 106 [.int .i64 n, ve, (.slice (some ⟨b9, 0, none⟩) n.toNat n.toNat), (.slice (some ⟨b17, 0, none⟩) n.toNat n.toNat), (.slice (some ⟨b41, 0, none⟩) n.toNat n.toNat), .int .i64 0, (.slice none 0 0), (.map (some b65))] :: .box b17 3 (arrV n fun j => .int .i64 (Deep.St.zero.met j)) :: .box b41 3 (arrV n fun j => .int .i64 (Deep.St.zero.low j)) :: .row 3 (.slice none 0 0) ([] : List Int) :: mapR Try.prog 3 (α := List (Int)) b65 [] :: .box b9 27 (arrV n (updF vs ua v112)) :: .box b4 29 [vv, vl] :: .box b2 24 [.int .i64 n, ve] :: (tl ++ (rowsT n (updF vs ua v112) (updF ls ua ((ls ua) ++ [2 * (L.getD i.toNat 0)]))).eraseIdx ub.toNat)) := H
     have H0 := H
     have hM0 := H0.keeps (((updF vs ua v112) ub).ownBlock) (.inr ⟨_, List.mem_of_getElem? (i := 0) rfl, rfl⟩)
     refine region_mix (But w115 (((updF vs ua v112) ub).ownBlock)) [0, 1, 2, 3, 4, 5, 6, 7, 8, 9, 10, 11, 12, 13, 14, 15, 16] 19 ?_
     replace H := H.drawn; have hD := But.drew w115 (((updF vs ua v112) ub).ownBlock)
     generalize ({ w115 with drawn := w115.drawn + 1 } : World) = w116 at H hD ⊢
     refine m_take (n := 4) [0, 1, 2, 3, 4, 5, 6, 7, 8, 9, 10, 11, 12, 13, 14] #[true, true, true, true, true, true, true, true, true, true, true, true, true, true, true, false, false, false, false] [(64, (.slice (some ⟨b9, 0, none⟩) n.toNat n.toNat)), (69, (.slice (some ⟨b9, 0, none⟩) n.toNat n.toNat)), (72, ((updF vs ua v112) ub))] [(2, pv b2), (3, pv b4), (5, pv b73), (26, vl), (27, iv (L.length : Int)), (28, iv i), (64, (.slice (some ⟨b9, 0, none⟩) n.toNat n.toNat)), (65, iv ub), (72, ((updF vs ua v112) ub)), (75, iv ((2 * (L.getD i.toNat 0)) + 1))] (TT ∧ TT ∧ (0 < Try.prog.cellsOf 67) ∧ (CellOk (But w115 (((updF vs ua v112) ub).ownBlock)) b73 (0 + 2) ((.slice (some ⟨b9, 0, none⟩) n.toNat n.toNat))) ∧ TT ∧ TT ∧ TT ∧ (0 < Try.prog.cellsOf 67) ∧ (CellOk (But w115 (((updF vs ua v112) ub).ownBlock)) b73 (0 + 2) ((.slice (some ⟨b9, 0, none⟩) n.toNat n.toNat))) ∧ TT ∧ ((Try.prog.info? 27).isSome = true ∧ IdxOk (.slice (some ⟨b9, 0, none⟩) n.toNat n.toNat) ub) ∧ (CellOk (But w115 (((updF vs ua v112) ub).ownBlock)) b9 (0 + ub.toNat * 1) (((updF vs ua v112) ub))) ∧ TT ∧ (InR .i64 (2 * (L.getD i.toNat 0))) ∧ (InR .i64 ((2 * (L.getD i.toNat 0)) + 1)) ∧ True) hA hD ⟨tv, tv, by decide +kernel, by exact box_cellC (box_atC H0 (((updF vs ua v112) ub).ownBlock) 1 rfl (H0.apart 1 0 (by decide) rfl rfl rfl)) 2, tv, tv, tv, by decide +kernel, by exact box_cellC (box_atC H0 (((updF vs ua v112) ub).ownBlock) 1 rfl (H0.apart 1 0 (by decide) rfl rfl rfl)) 2, tv, ⟨by kernel_rfl, arr_idx (by omega) (by omega)⟩, by exact arr_cellC (box_atC H0 (((updF vs ua v112) ub).ownBlock) 6 rfl (H0.apart 6 0 (by decide) rfl rfl rfl)) (by omega) (by omega), tv, ⟨by omega, by omega⟩, ⟨by omega, by omega⟩, tv⟩ fun a hA => ?_
     refine m_one 15 ?_; refine q_lit 15 76 27 1 #[(0, .tmp 75)] 3 [(0, iv ((2 * (L.getD i.toNat 0)) + 1))] [.int .i64 ((2 * (L.getD i.toNat 0)) + 1)] [(2, pv b2), (3, pv b4), (5, pv b73), (26, vl), (27, iv (L.length : Int)), (28, iv i), (64, (.slice (some ⟨b9, 0, none⟩) n.toNat n.toNat)), (65, iv ub), (72, ((updF vs ua v112) ub))] hA H fun b117 a w118 H hA hG hge_b117 => ?_
     replace hge_b117 := Nat.le_trans hD.1 hge_b117
     replace hD := hD.below hG
     refine ⟨fun _ => hD, ?_⟩
     refine m_one 16 ?_; refine q_push 16 77 (.tmp 72) (.tmp 76) 1 0 b117 1 1 ((updF vs ua v112) ub) ((updF ls ua ((ls ua) ++ [2 * (L.getD i.toNat 0)])) ub) [(2 * (L.getD i.toNat 0)) + 1] [.int .i64 ((2 * (L.getD i.toNat 0)) + 1)] [(2, pv b2), (3, pv b4), (5, pv b73), (26, vl), (27, iv (L.length : Int)), (28, iv i), (64, (.slice (some ⟨b9, 0, none⟩) n.toNat n.toNat)), (65, iv ub)] hA H Try.E27 rfl rfl (by exact (RowRd.single (α := Int) rfl)) rfl (by simp only [List.length_cons, List.length_nil, List.length_append]; omega) (by decide) fun v119 a w120 H hA hG => ?_
     replace H : Fr _ _ _ (.row 3 v119 (((updF ls ua ((ls ua) ++ [2 * (L.getD i.toNat 0)])) ub) ++ [(2 * (L.getD i.toNat 0)) + 1]) :: .box b73 106 [.int .i64 n, ve, (.slice (some ⟨b9, 0, none⟩) n.toNat n.toNat), (.slice (some ⟨b17, 0, none⟩) n.toNat n.toNat), (.slice (some ⟨b41, 0, none⟩) n.toNat n.toNat), .int .i64 0, (.slice none 0 0), (.map (some b65))] :: .box b17 3 (arrV n fun j => .int .i64 (Deep.St.zero.met j)) :: .box b41 3 (arrV n fun j => .int .i64 (Deep.St.zero.low j)) :: .row 3 (.slice none 0 0) ([] : List Int) :: mapR Try.prog 3 (α := List (Int)) b65 [] :: .box b9 27 (arrV n (updF vs ua v112)) :: .box b4 29 [vv, vl] :: .box b2 24 [.int .i64 n, ve] :: (tl ++ (rowsT n (updF vs ua v112) (updF ls ua ((ls ua) ++ [2 * (L.getD i.toNat 0)]))).eraseIdx ub.toNat)) := H.drop 0
     replace hD := hD.grown hG (fun b hb => .inl hb.symm)
     refine ⟨fun _ => hD, ?_⟩
     refine m_one 17 ?_; refine q_one 17 [] [(2, pv b2), (3, pv b4), (5, pv b73), (26, vl), (27, iv (L.length : Int)), (28, iv i), (77, v119), (78, .pointer (some ⟨b9, 0 + ub.toNat * 1, none⟩))] (((Try.prog.info? 27).isSome = true ∧ IdxOk (.slice (some ⟨b9, 0, none⟩) n.toNat n.toNat) ub) ∧ True) hA H ⟨⟨by kernel_rfl, arr_idx (by omega) (by omega)⟩, tv⟩ fun a w121 H hA hG => ?_
     refine ⟨fun h => absurd h (by decide), ?_⟩
     refine m_one 18 ?_; refine q_store 18 27 (.tmp 78) (.tmp 77) 6 b9 (0 + ub.toNat * 1) 27 ((arrV n (updF vs ua v112))) [v119] ((arrV n (updF (updF vs ua v112) ub v119))) v119 [(2, pv b2), (3, pv b4), (5, pv b73), (26, vl), (27, iv (L.length : Int)), (28, iv i)] hA H rfl (one_cells (rd_one (H.out 0 rfl))) (arr_room (by omega) (by omega)) (arr_set (by omega) (by omega) (updF_same _ _ _) (fun j hj => updF_ne _ _ hj)) (fun v hv => by simp only [List.mem_cons, List.not_mem_nil, or_false] at hv; rcases hv with rfl; exact (rd_one (H.out 0 rfl))) fun a w122 H hA hG => ?_
     replace H : Fr _ _ _ (.row 3 v119 (((updF ls ua ((ls ua) ++ [2 * (L.getD i.toNat 0)])) ub) ++ [(2 * (L.getD i.toNat 0)) + 1]) :: .box b73 106 [.int .i64 n, ve, (.slice (some ⟨b9, 0, none⟩) n.toNat n.toNat), (.slice (some ⟨b17, 0, none⟩) n.toNat n.toNat), (.slice (some ⟨b41, 0, none⟩) n.toNat n.toNat), .int .i64 0, (.slice none 0 0), (.map (some b65))] :: .box b17 3 (arrV n fun j => .int .i64 (Deep.St.zero.met j)) :: .box b41 3 (arrV n fun j => .int .i64 (Deep.St.zero.low j)) :: .row 3 (.slice none 0 0) ([] : List Int) :: mapR Try.prog 3 (α := List (Int)) b65 [] :: .box b9 27 (arrV n (updF (updF vs ua v112) ub v119)) :: .box b4 29 [vv, vl] :: .box b2 24 [.int .i64 n, ve] :: (tl ++ (rowsT n (updF vs ua v112) (updF ls ua ((ls ua) ++ [2 * (L.getD i.toNat 0)]))).eraseIdx ub.toNat)) := H
     refine ⟨fun h => absurd h (by decide), ?_⟩
     refine m_end ?_
     refine hK103 _ _ ?_
     refine q_reg [] [(2, pv b2), (3, pv b4), (5, pv b73), (26, vl), (27, iv (L.length : Int)), (28, iv (i + 1))] ((InR .i64 (i + 1)) ∧ TT ∧ True) hA H ⟨⟨by omega, by omega⟩, tv, tv⟩ fun a w123 hA H hG => ?_
     replace H := rows_in (a := ub) ([.box b73 106 [.int .i64 n, ve, (.slice (some ⟨b9, 0, none⟩) n.toNat n.toNat), (.slice (some ⟨b17, 0, none⟩) n.toNat n.toNat), (.slice (some ⟨b41, 0, none⟩) n.toNat n.toNat), .int .i64 0, (.slice none 0 0), (.map (some b65))], .box b17 3 (arrV n fun j => .int .i64 (Deep.St.zero.met j)), .box b41 3 (arrV n fun j => .int .i64 (Deep.St.zero.low j)), .row 3 (.slice none 0 0) ([] : List Int), mapR Try.prog 3 (α := List (Int)) b65 [], .box b9 27 (arrV n (updF (updF vs ua v112) ub v119)), .box b4 29 [vv, vl], .box b2 24 [.int .i64 n, ve]] ++ tl) H (by omega) (by omega)
     replace H : Fr _ _ _ (.box b73 106 [.int .i64 n, ve, (.slice (some ⟨b9, 0, none⟩) n.toNat n.toNat), (.slice (some ⟨b17, 0, none⟩) n.toNat n.toNat), (.slice (some ⟨b41, 0, none⟩) n.toNat n.toNat), .int .i64 0, (.slice none 0 0), (.map (some b65))] :: .box b17 3 (arrV n fun j => .int .i64 (Deep.St.zero.met j)) :: .box b41 3 (arrV n fun j => .int .i64 (Deep.St.zero.low j)) :: .row 3 (.slice none 0 0) ([] : List Int) :: mapR Try.prog 3 (α := List (Int)) b65 [] :: .box b9 27 (arrV n (updF (updF vs ua v112) ub v119)) :: .box b4 29 [vv, vl] :: .box b2 24 [.int .i64 n, ve] :: (tl ++ rowsT n (updF (updF vs ua v112) ub v119) (updF (updF ls ua ((ls ua) ++ [2 * (L.getD i.toNat 0)])) ub (((updF ls ua ((ls ua) ++ [2 * (L.getD i.toNat 0)])) ub) ++ [(2 * (L.getD i.toNat 0)) + 1])))) := H
     refine ⟨(i + 1, updF (updF vs ua v112) ub v119, updF (updF ls ua ((ls ua) ++ [2 * (L.getD i.toNat 0)])) ub (((updF ls ua ((ls ua) ++ [2 * (L.getD i.toNat 0)])) ub) ++ [(2 * (L.getD i.toNat 0)) + 1])), ⟨env_sub _ hA, ⟨_, H⟩, ?_⟩, ?_⟩
     · (try dsimp only); exact ⟨by omega, darts_next h0 (by omega) hls ha9 hb9, darts_len hll⟩
     (try dsimp only); omega
   have hhb102 := of_decide_eq_false hb102
   refine go_exit 0 ?_
   refine hK94 _ _ ?_
   refine go_seq fun K124 hK124 => ?_
   refine go_seq fun K125 hK125 => ?_
   obtain ⟨S, H⟩ := rows_freeze ([.box b73 106 [.int .i64 n, ve, (.slice (some ⟨b9, 0, none⟩) n.toNat n.toNat), (.slice (some ⟨b17, 0, none⟩) n.toNat n.toNat), (.slice (some ⟨b41, 0, none⟩) n.toNat n.toNat), .int .i64 0, (.slice none 0 0), (.map (some b65))], .box b17 3 (arrV n fun j => .int .i64 (Deep.St.zero.met j)), .box b41 3 (arrV n fun j => .int .i64 (Deep.St.zero.low j)), .row 3 (.slice none 0 0) ([] : List Int), mapR Try.prog 3 (α := List (Int)) b65 [], .box b9 27 (arrV n vs), .box b4 29 [vv, vl], .box b2 24 [.int .i64 n, ve]] ++ tl) H 5 rfl (by omega)
   replace H : Fr _ _ _ (.box b73 106 [.int .i64 n, ve, (.slice (some ⟨b9, 0, none⟩) n.toNat n.toNat), (.slice (some ⟨b17, 0, none⟩) n.toNat n.toNat), (.slice (some ⟨b41, 0, none⟩) n.toNat n.toNat), .int .i64 0, (.slice none 0 0), (.map (some b65))] :: .box b17 3 (arrV n fun j => .int .i64 (Deep.St.zero.met j)) :: .box b41 3 (arrV n fun j => .int .i64 (Deep.St.zero.low j)) :: .row 3 (.slice none 0 0) ([] : List Int) :: mapR Try.prog 3 (α := List (Int)) b65 [] :: .ro (.slice (some ⟨b9, 0, none⟩) n.toNat n.toNat) ((List.range n.toNat).map fun q : Nat => ls (q : Int)) :: .box b4 29 [vv, vl] :: .box b2 24 [.int .i64 n, ve] :: tl) := H
   have hDL : ∀ x, 0 ≤ x → x < n → ((List.range n.toNat).map fun q : Nat => ls (q : Int)).getD x.toNat [] = dartsL E L x := fun x q0 q1 => by rw [range_getD q0 q1, hls x q0 q1, List.take_of_length_le (by omega)]
   have hDLn : (((List.range n.toNat).map fun q : Nat => ls (q : Int)).length : Int) = n := by simp; omega
   refine q_reg [(81, vv), (82, iv (V.length : Int))] [(5, pv b73), (81, vv), (82, iv (V.length : Int)), (83, iv 0)] ((0 < Try.prog.cellsOf 27) ∧ (CellOk (On w100) b4 (0 + 0) (vv)) ∧ (LenOk vv (V.length : Int)) ∧ TT ∧ True) hA H ⟨by decide +kernel, by exact box_cell H 6 rfl 0, by exact len_ok (H.arg hV), tv, tv⟩ fun a w126 hA H hG => ?_
   refine hK125 _ _ ?_
   refine go_block 2 ?_
   refine go_loop_ (Int × Deep.St × Value × List (Int × Value × List Int)) (fun x_ a W => (fun (i : Int) (t : Deep.St) (eu : Value) (iu : List (Int × Value × List Int)) => EnvOk 100 a (keepEnv [(5, pv b73), (81, vv), (82, iv (V.length : Int)), (83, iv i)]) ∧ (∃ S, Fr o W S (.box b73 106 [.int .i64 n, ve, (.slice (some ⟨b9, 0, none⟩) n.toNat n.toNat), (.slice (some ⟨b17, 0, none⟩) n.toNat n.toNat), (.slice (some ⟨b41, 0, none⟩) n.toNat n.toNat), .int .i64 t.cnt, eu, (.map (some b65))] :: .box b17 3 (arrV n fun j => .int .i64 (t.met j)) :: .box b41 3 (arrV n fun j => .int .i64 (t.low j)) :: .row 3 eu t.stk :: mapR Try.prog 3 (α := List Int) b65 iu :: .ro (.slice (some ⟨b9, 0, none⟩) n.toNat n.toNat) ((List.range n.toNat).map fun q : Nat => ls (q : Int)) :: .box b4 29 [vv, vl] :: .box b2 24 [.int .i64 n, ve] :: tl)) ∧ 0 ≤ i ∧ Deep.Roots (dartsL E L) (headE E) (V.drop i.toNat) t s' ∧ 0 ≤ t.cnt ∧ insOf iu = t.ins) x_.1 x_.2.1 x_.2.2.1 x_.2.2.2) (fun x_ => (fun (i : Int) (t : Deep.St) (eu : Value) (iu : List (Int × Value × List Int)) => ((V.length : Int) - i).toNat) x_.1 x_.2.1 x_.2.2.1 x_.2.2.2) (0, Deep.St.zero, .slice none 0 0, []) ?_ (fun x_ a w128 hI => ?_)
   · (try dsimp only); exact ⟨env_sub _ hA, ⟨_, H⟩, by omega, hroots, Int.le_refl _, rfl⟩
   obtain ⟨i, t, eu, iu⟩ := x_
   obtain ⟨hA, ⟨S, H⟩, h0, hst, hc, hit⟩ := hI
   try dsimp only at h0 hst hc hit
   replace H : Fr _ _ _ (.box b73 106 [.int .i64 n, ve, (.slice (some ⟨b9, 0, none⟩) n.toNat n.toNat), (.slice (some ⟨b17, 0, none⟩) n.toNat n.toNat), (.slice (some ⟨b41, 0, none⟩) n.toNat n.toNat), .int .i64 t.cnt, eu, (.map (some b65))] :: .box b17 3 (arrV n fun j => .int .i64 (t.met j)) :: .box b41 3 (arrV n fun j => .int .i64 (t.low j)) :: .row 3 eu t.stk :: mapR Try.prog 3 (α := List Int) b65 iu :: .ro (.slice (some ⟨b9, 0, none⟩) n.toNat n.toNat) ((List.range n.toNat).map fun q : Nat => ls (q : Int)) :: .box b4 29 [vv, vl] :: .box b2 24 [.int .i64 n, ve] :: tl) := H
   refine go_seq fun K129 hK129 => ?_
   refine q_reg [] [(5, pv b73), (81, vv), (82, iv (V.length : Int)), (83, iv i), (84, .bool (decide (i < (V.length : Int))))] (TT ∧ True) hA H ⟨tv, tv⟩ fun a w130 hA H hG => ?_
   refine hK129 _ _ ?_
   refine go_seq fun K131 hK131 => ?_
   refine go_cond hA (.tmp 84) (decide (i < (V.length : Int))) (fun hb132 => ?_) (fun hb132 => ?_)
   · have hhb132 := of_decide_eq_true hb132
     refine go_skip ?_
     refine hK131 _ _ ?_
     refine go_seq fun K133 hK133 => ?_
     refine go_block 3 ?_
     refine go_seq fun K134 hK134 => ?_
     have hvm := hp2 i.toNat (by omega)
     rw [drop_round h0 (by omega)] at hst
     refine q_reg [(86, iv (V.getD i.toNat 0))] [(5, pv b73), (11, iv (V.getD i.toNat 0)), (81, vv), (82, iv (V.length : Int)), (83, iv i)] (((Try.prog.info? 3).isSome = true ∧ IdxOk vv i) ∧ (CellOk (On w130) (hdB vv) (hdO vv + i.toNat * 1) (.int .i64 (V.getD i.toNat 0))) ∧ TT ∧ True) hA H ⟨⟨by kernel_rfl, by exact idx_ok (H.arg hV) (by omega) (by omega)⟩, by exact cell_flat (i := i) (H.arg hV) (by omega) (by omega) 0 0, tv, tv⟩ fun a w135 hA H hG => ?_
     refine hK134 _ _ ?_
     refine go_seq fun K136 hK136 => ?_
     refine q_reg [(90, (.slice (some ⟨b17, 0, none⟩) n.toNat n.toNat)), (93, iv (t.met (V.getD i.toNat 0)))] [(5, pv b73), (11, iv (V.getD i.toNat 0)), (81, vv), (82, iv (V.length : Int)), (83, iv i), (94, .bool (decide (t.met (V.getD i.toNat 0) = 0)))] (TT ∧ TT ∧ (0 < Try.prog.cellsOf 27) ∧ (CellOk (On w135) b73 (0 + 3) ((.slice (some ⟨b17, 0, none⟩) n.toNat n.toNat))) ∧ TT ∧ ((Try.prog.info? 3).isSome = true ∧ IdxOk (.slice (some ⟨b17, 0, none⟩) n.toNat n.toNat) (V.getD i.toNat 0)) ∧ (CellOk (On w135) b17 (0 + (V.getD i.toNat 0).toNat * 1) (.int .i64 (t.met (V.getD i.toNat 0)))) ∧ TT ∧ True) hA H ⟨tv, tv, by decide +kernel, by exact box_cell H 0 rfl 3, tv, ⟨by kernel_rfl, arr_idx (by omega) (by omega)⟩, by exact arr_cell H 1 rfl (by omega) (by omega), tv, tv⟩ fun a w137 hA H hG => ?_
     refine hK136 _ _ ?_
     refine go_cond hA (.tmp 94) (decide (t.met (V.getD i.toNat 0) = 0)) (fun hb138 => ?_) (fun hb138 => ?_)
     · have hhb138 := of_decide_eq_true hb138
       refine region_list ?_
       refine q_list 0 2 [] [(5, pv b73), (81, vv), (82, iv (V.length : Int)), (83, iv i), (95, pv b73), (96, iv (V.getD i.toNat 0))] (TT ∧ TT ∧ True) hA H ⟨tv, tv, tv⟩ fun a w139 hA H hG => ?_
       obtain ⟨s1, k9, hvis, hst2⟩ := roots_go hst hhb138
       have hb1 := Deep.roots_bd hst2 hb
       have hc2 := Deep.visit_cnt _ _ _ _ _ hvis
       refine list_at 2 ?_; refine q_any 2 97 102 #[.tmp 95, .tmp 96, .const (.int .i64 (-1))] #[107, 3, 3] [.pointer (some ⟨b73, 0, none⟩), .int .i64 (V.getD i.toNat 0), .int .i64 (-1)] (fun u9 w9 => ∃ S ev9 in9, Fr o w9 S (finR n ve (.slice (some ⟨b9, 0, none⟩) n.toNat n.toNat) ((List.range n.toNat).map fun q : Nat => ls (q : Int)) b73 b17 b41 b65 s1 ev9 in9 (.box b4 29 [vv, vl] :: .box b2 24 [.int .i64 n, ve] :: tl)) ∧ insOf in9 = s1.ins) [(5, pv b73), (81, vv), (82, iv (V.length : Int)), (83, iv i)] hA ((visit_any n ve E L (.slice (some ⟨b9, 0, none⟩) n.toNat n.toNat) ((List.range n.toNat).map fun q : Nat => ls (q : Int)) b73 b17 b41 b65 o hp1 hp3 hE hDL hDLn k9 _ _ t s1 _ _ eu iu (.box b4 29 [vv, vl] :: .box b2 24 [.int .i64 n, ve] :: tl) hvis hb1 hc (by omega) (by omega) H hit).mono fun e9 w9 h9 => ⟨_, h9.1, h9.2⟩) fun v140 a w141 hR142 hA => ?_
       obtain ⟨S, ev2, iu2, H, hi2⟩ := hR142
       replace H : Fr _ _ _ (.box b73 106 [.int .i64 n, ve, (.slice (some ⟨b9, 0, none⟩) n.toNat n.toNat), (.slice (some ⟨b17, 0, none⟩) n.toNat n.toNat), (.slice (some ⟨b41, 0, none⟩) n.toNat n.toNat), .int .i64 s1.cnt, ev2, (.map (some b65))] :: .box b17 3 (arrV n fun j => .int .i64 (s1.met j)) :: .box b41 3 (arrV n fun j => .int .i64 (s1.low j)) :: .row 3 ev2 s1.stk :: mapR Try.prog 3 (α := List Int) b65 iu2 :: .ro (.slice (some ⟨b9, 0, none⟩) n.toNat n.toNat) ((List.range n.toNat).map fun q : Nat => ls (q : Int)) :: .box b4 29 [vv, vl] :: .box b2 24 [.int .i64 n, ve] :: tl) := H
       refine list_end ?_
       refine hK133 _ _ ?_
       refine q_reg [] [(5, pv b73), (81, vv), (82, iv (V.length : Int)), (83, iv (i + 1))] ((InR .i64 (i + 1)) ∧ TT ∧ True) hA H ⟨⟨by omega, by omega⟩, tv, tv⟩ fun a w143 hA H hG => ?_
       refine ⟨(i + 1, s1, ev2, iu2), ⟨env_sub _ hA, ⟨_, H⟩, ?_⟩, ?_⟩
       · (try dsimp only); exact ⟨by omega, hst2, by omega, hi2⟩
       (try dsimp only); omega
     have hhb138 := of_decide_eq_false hb138
     refine go_skip ?_
     refine hK133 _ _ ?_
     refine q_reg [] [(5, pv b73), (81, vv), (82, iv (V.length : Int)), (83, iv (i + 1))] ((InR .i64 (i + 1)) ∧ TT ∧ True) hA H ⟨⟨by omega, by omega⟩, tv, tv⟩ fun a w144 hA H hG => ?_
     refine ⟨(i + 1, t, eu, iu), ⟨env_sub _ hA, ⟨_, H⟩, ?_⟩, ?_⟩
     · (try dsimp only); exact ⟨by omega, roots_met hst hhb138, hc, hit⟩
     (try dsimp only); omega
   have hhb132 := of_decide_eq_false hb132
   refine go_exit 2 ?_
   refine hK124 _ _ ?_
   refine go_seq fun K145 hK145 => ?_
   refine q_reg [] [(4, pv b73)] (TT ∧ TT ∧ True) hA H ⟨tv, tv, tv⟩ fun a w146 hA H hG => ?_
   refine hK145 _ _ ?_
   refine go_ret_ ?_
   refine ret_one 4 (.pointer (some ⟨b73, 0, none⟩)) hA ?_
   rw [drop_end (by omega)] at hst; cases roots_nil hst
   replace H := H.drop 7
   replace H := H.drop 6
   exact ⟨b73, b17, b41, b65, _, _, _, _, _, rfl, H, hit⟩
 have hM76 : ∀ (a : Act) (w147 : World) (S : Stab) (b9 : Nat) (hge_b9 : w6.heap.size ≤ b9) (b17 : Nat) (hge_b17 : w6.heap.size ≤ b17) (b41 : Nat) (hge_b41 : w6.heap.size ≤ b41) (b65 : Nat) (hge_b65 : w6.heap.size ≤ b65), EnvOk 100 a (keepEnv [(2, pv b2), (3, pv b4), (23, .agg #[.int .i64 n, ve, (.slice (some ⟨b9, 0, none⟩) n.toNat n.toNat), (.slice (some ⟨b17, 0, none⟩) n.toNat n.toNat), (.slice (some ⟨b41, 0, none⟩) n.toNat n.toNat), .int .i64 0, (.slice none 0 0), (.map (some b65))])]) → Fr o w147 S (mapR Try.prog 3 (α := List (Int)) b65 [] :: .box b41 3 (arrV n fun j => .int .i64 (Deep.St.zero.low j)) :: .box b17 3 (arrV n fun j => .int .i64 (Deep.St.zero.met j)) :: .box b9 27 (arrV n (fun _ => .slice none 0 0)) :: .box b4 29 [vv, vl] :: .box b2 24 [.int .i64 n, ve] :: tl) → But w6 none w147 → M 2 #[true, true, true, true, true, true, true, true, true, true, true, true, false, false] a w147 := by
   intro a w147 S b9 hge_b9 b17 hge_b17 b41 hge_b41 b65 hge_b65 hA H hD
   refine (hM _ _ _ _).2 ?_
   refine m_one 12 ?_; refine q_box 12 24 106 (.tmp 23) (.agg #[.int .i64 n, ve, (.slice (some ⟨b9, 0, none⟩) n.toNat n.toNat), (.slice (some ⟨b17, 0, none⟩) n.toNat n.toNat), (.slice (some ⟨b41, 0, none⟩) n.toNat n.toNat), .int .i64 0, (.slice none 0 0), (.map (some b65))]) [.int .i64 n, ve, (.slice (some ⟨b9, 0, none⟩) n.toNat n.toNat), (.slice (some ⟨b17, 0, none⟩) n.toNat n.toNat), (.slice (some ⟨b41, 0, none⟩) n.toNat n.toNat), .int .i64 0, (.slice none 0 0), (.map (some b65))] [(2, pv b2), (3, pv b4)] hA H fun b148 a w149 H hA hG hge_b148 => ?_
   replace hge_b148 := Nat.le_trans hD.1 hge_b148
   replace hD := hD.below hG
   refine ⟨fun _ => hD, ?_⟩
   exact (hM _ _ _ _).1 (hM75 _ _ _ b9 hge_b9 b17 hge_b17 b41 hge_b41 b65 hge_b65 b148 hge_b148 (env_sub _ hA) H hD)
 have hM77 : ∀ (a : Act) (w150 : World) (S : Stab) (b9 : Nat) (hge_b9 : w6.heap.size ≤ b9) (b17 : Nat) (hge_b17 : w6.heap.size ≤ b17) (b41 : Nat) (hge_b41 : w6.heap.size ≤ b41), EnvOk 100 a (keepEnv [(2, pv b2), (3, pv b4), (12, .agg #[.int .i64 n, ve]), (15, (.slice (some ⟨b9, 0, none⟩) n.toNat n.toNat)), (18, (.slice (some ⟨b17, 0, none⟩) n.toNat n.toNat)), (21, (.slice (some ⟨b41, 0, none⟩) n.toNat n.toNat))]) → Fr o w150 S (.box b41 3 (arrV n fun j => .int .i64 (Deep.St.zero.low j)) :: .box b17 3 (arrV n fun j => .int .i64 (Deep.St.zero.met j)) :: .box b9 27 (arrV n (fun _ => .slice none 0 0)) :: .box b4 29 [vv, vl] :: .box b2 24 [.int .i64 n, ve] :: tl) → But w6 none w150 → M 4 #[true, true, true, true, true, true, true, true, true, true, false, false, false, false] a w150 := by
   intro a w150 S b9 hge_b9 b17 hge_b17 b41 hge_b41 hA H hD
   refine (hM _ _ _ _).2 ?_
   refine m_one 10 ?_; refine q_makeMap (List (Int)) 3 10 22 104 [(2, pv b2), (3, pv b4), (12, .agg #[.int .i64 n, ve]), (15, (.slice (some ⟨b9, 0, none⟩) n.toNat n.toNat)), (18, (.slice (some ⟨b17, 0, none⟩) n.toNat n.toNat)), (21, (.slice (some ⟨b41, 0, none⟩) n.toNat n.toNat))] hA H fun b151 a w152 H hA hG hge_b151 => ?_
   replace hge_b151 := Nat.le_trans hD.1 hge_b151
   replace hD := hD.below hG
   refine ⟨fun _ => hD, ?_⟩
   refine m_take (n := 2) [11] #[true, true, true, true, true, true, true, true, true, true, true, true, false, false] [(23, .agg #[.int .i64 n, ve, (.slice (some ⟨b9, 0, none⟩) n.toNat n.toNat), (.slice (some ⟨b17, 0, none⟩) n.toNat n.toNat), (.slice (some ⟨b41, 0, none⟩) n.toNat n.toNat), .int .i64 0, (.slice none 0 0), (.map (some b151))])] [(2, pv b2), (3, pv b4), (23, .agg #[.int .i64 n, ve, (.slice (some ⟨b9, 0, none⟩) n.toNat n.toNat), (.slice (some ⟨b17, 0, none⟩) n.toNat n.toNat), (.slice (some ⟨b41, 0, none⟩) n.toNat n.toNat), .int .i64 0, (.slice none 0 0), (.map (some b151))])] ((∀ w, (Instr.build 106 #[(0, .agg #[.int .i64 n, ve]), (1, (.slice (some ⟨b9, 0, none⟩) n.toNat n.toNat)), (2, (.slice (some ⟨b17, 0, none⟩) n.toNat n.toNat)), (3, (.slice (some ⟨b41, 0, none⟩) n.toNat n.toNat)), (6, (.map (some b151)))]).run Try.prog w = .ok (.agg #[.int .i64 n, ve, (.slice (some ⟨b9, 0, none⟩) n.toNat n.toNat), (.slice (some ⟨b17, 0, none⟩) n.toNat n.toNat), (.slice (some ⟨b41, 0, none⟩) n.toNat n.toNat), .int .i64 0, (.slice none 0 0), (.map (some b151))]) w) ∧ True) hA hD ⟨fun w => by obtain ⟨_, _, _, e0⟩ := rd_form (H0.argT hE); rw [e0]; kernel_rfl, tv⟩ fun a hA => ?_
   exact (hM _ _ _ _).1 (hM76 _ _ _ b9 hge_b9 b17 hge_b17 b41 hge_b41 b151 hge_b151 (env_sub _ hA) H hD)
 have hM78 : ∀ (a : Act) (w153 : World) (S : Stab) (b9 : Nat) (hge_b9 : w6.heap.size ≤ b9) (b17 : Nat) (hge_b17 : w6.heap.size ≤ b17) (b43 : Nat) (hge_b43 : w6.heap.size ≤ b43), EnvOk 100 a (keepEnv [(2, pv b2), (3, pv b4), (12, .agg #[.int .i64 n, ve]), (15, (.slice (some ⟨b9, 0, none⟩) n.toNat n.toNat)), (18, (.slice (some ⟨b17, 0, none⟩) n.toNat n.toNat)), (20, iv n), (22, (.map (some b43)))]) → Fr o w153 S (mapR Try.prog 3 (α := List (Int)) b43 [] :: .box b17 3 (arrV n fun j => .int .i64 (Deep.St.zero.met j)) :: .box b9 27 (arrV n (fun _ => .slice none 0 0)) :: .box b4 29 [vv, vl] :: .box b2 24 [.int .i64 n, ve] :: tl) → But w6 none w153 → M 4 #[true, true, true, true, true, true, true, true, true, false, true, false, false, false] a w153 := by
   intro a w153 S b9 hge_b9 b17 hge_b17 b43 hge_b43 hA H hD
   refine (hM _ _ _ _).2 ?_
   refine m_one 9 ?_; refine q_makeA 9 21 27 (.tmp 20) 3 n (.int .i64 0) [(2, pv b2), (3, pv b4), (12, .agg #[.int .i64 n, ve]), (15, (.slice (some ⟨b9, 0, none⟩) n.toNat n.toNat)), (18, (.slice (some ⟨b17, 0, none⟩) n.toNat n.toNat)), (22, (.map (some b43)))] hA H Try.underlying27 (make_info (by kernel_rfl)) (by omega) (by omega) fun b154 a w155 H hA hG hge_b154 => ?_
   replace hge_b154 := Nat.le_trans hD.1 hge_b154
   replace H : Fr _ _ _ (mapR Try.prog 3 (α := List (Int)) b43 [] :: .box b154 3 (arrV n fun j => .int .i64 (Deep.St.zero.low j)) :: .box b17 3 (arrV n fun j => .int .i64 (Deep.St.zero.met j)) :: .box b9 27 (arrV n (fun _ => .slice none 0 0)) :: .box b4 29 [vv, vl] :: .box b2 24 [.int .i64 n, ve] :: tl) := H.sink 1 1
   replace hD := hD.below hG
   refine ⟨fun _ => hD, ?_⟩
   refine m_take (n := 2) [11] #[true, true, true, true, true, true, true, true, true, true, true, true, false, false] [(23, .agg #[.int .i64 n, ve, (.slice (some ⟨b9, 0, none⟩) n.toNat n.toNat), (.slice (some ⟨b17, 0, none⟩) n.toNat n.toNat), (.slice (some ⟨b154, 0, none⟩) n.toNat n.toNat), .int .i64 0, (.slice none 0 0), (.map (some b43))])] [(2, pv b2), (3, pv b4), (23, .agg #[.int .i64 n, ve, (.slice (some ⟨b9, 0, none⟩) n.toNat n.toNat), (.slice (some ⟨b17, 0, none⟩) n.toNat n.toNat), (.slice (some ⟨b154, 0, none⟩) n.toNat n.toNat), .int .i64 0, (.slice none 0 0), (.map (some b43))])] ((∀ w, (Instr.build 106 #[(0, .agg #[.int .i64 n, ve]), (1, (.slice (some ⟨b9, 0, none⟩) n.toNat n.toNat)), (2, (.slice (some ⟨b17, 0, none⟩) n.toNat n.toNat)), (3, (.slice (some ⟨b154, 0, none⟩) n.toNat n.toNat)), (6, (.map (some b43)))]).run Try.prog w = .ok (.agg #[.int .i64 n, ve, (.slice (some ⟨b9, 0, none⟩) n.toNat n.toNat), (.slice (some ⟨b17, 0, none⟩) n.toNat n.toNat), (.slice (some ⟨b154, 0, none⟩) n.toNat n.toNat), .int .i64 0, (.slice none 0 0), (.map (some b43))]) w) ∧ True) hA hD ⟨fun w => by obtain ⟨_, _, _, e0⟩ := rd_form (H0.argT hE); rw [e0]; kernel_rfl, tv⟩ fun a hA => ?_
   exact (hM _ _ _ _).1 (hM76 _ _ _ b9 hge_b9 b17 hge_b17 b154 hge_b154 b43 hge_b43 (env_sub _ hA) H hD)
 have hM79 : ∀ (a : Act) (w156 : World) (S : Stab) (b9 : Nat) (hge_b9 : w6.heap.size ≤ b9) (b19 : Nat) (hge_b19 : w6.heap.size ≤ b19) (b47 : Nat) (hge_b47 : w6.heap.size ≤ b47), EnvOk 100 a (keepEnv [(2, pv b2), (3, pv b4), (12, .agg #[.int .i64 n, ve]), (15, (.slice (some ⟨b9, 0, none⟩) n.toNat n.toNat)), (17, iv n), (21, (.slice (some ⟨b19, 0, none⟩) n.toNat n.toNat)), (22, (.map (some b47)))]) → Fr o w156 S (mapR Try.prog 3 (α := List (Int)) b47 [] :: .box b19 3 (arrV n fun j => .int .i64 (Deep.St.zero.low j)) :: .box b9 27 (arrV n (fun _ => .slice none 0 0)) :: .box b4 29 [vv, vl] :: .box b2 24 [.int .i64 n, ve] :: tl) → But w6 none w156 → M 4 #[true, true, true, true, true, true, false, true, true, true, true, false, false, false] a w156 := by
   intro a w156 S b9 hge_b9 b19 hge_b19 b47 hge_b47 hA H hD
   refine (hM _ _ _ _).2 ?_
   refine m_one 6 ?_; refine q_makeA 6 18 27 (.tmp 17) 3 n (.int .i64 0) [(2, pv b2), (3, pv b4), (12, .agg #[.int .i64 n, ve]), (15, (.slice (some ⟨b9, 0, none⟩) n.toNat n.toNat)), (21, (.slice (some ⟨b19, 0, none⟩) n.toNat n.toNat)), (22, (.map (some b47)))] hA H Try.underlying27 (make_info (by kernel_rfl)) (by omega) (by omega) fun b157 a w158 H hA hG hge_b157 => ?_
   replace hge_b157 := Nat.le_trans hD.1 hge_b157
   replace H : Fr _ _ _ (mapR Try.prog 3 (α := List (Int)) b47 [] :: .box b19 3 (arrV n fun j => .int .i64 (Deep.St.zero.low j)) :: .box b157 3 (arrV n fun j => .int .i64 (Deep.St.zero.met j)) :: .box b9 27 (arrV n (fun _ => .slice none 0 0)) :: .box b4 29 [vv, vl] :: .box b2 24 [.int .i64 n, ve] :: tl) := H.sink 1 2
   replace hD := hD.below hG
   refine ⟨fun _ => hD, ?_⟩
   refine m_take (n := 2) [11] #[true, true, true, true, true, true, true, true, true, true, true, true, false, false] [(23, .agg #[.int .i64 n, ve, (.slice (some ⟨b9, 0, none⟩) n.toNat n.toNat), (.slice (some ⟨b157, 0, none⟩) n.toNat n.toNat), (.slice (some ⟨b19, 0, none⟩) n.toNat n.toNat), .int .i64 0, (.slice none 0 0), (.map (some b47))])] [(2, pv b2), (3, pv b4), (23, .agg #[.int .i64 n, ve, (.slice (some ⟨b9, 0, none⟩) n.toNat n.toNat), (.slice (some ⟨b157, 0, none⟩) n.toNat n.toNat), (.slice (some ⟨b19, 0, none⟩) n.toNat n.toNat), .int .i64 0, (.slice none 0 0), (.map (some b47))])] ((∀ w, (Instr.build 106 #[(0, .agg #[.int .i64 n, ve]), (1, (.slice (some ⟨b9, 0, none⟩) n.toNat n.toNat)), (2, (.slice (some ⟨b157, 0, none⟩) n.toNat n.toNat)), (3, (.slice (some ⟨b19, 0, none⟩) n.toNat n.toNat)), (6, (.map (some b47)))]).run Try.prog w = .ok (.agg #[.int .i64 n, ve, (.slice (some ⟨b9, 0, none⟩) n.toNat n.toNat), (.slice (some ⟨b157, 0, none⟩) n.toNat n.toNat), (.slice (some ⟨b19, 0, none⟩) n.toNat n.toNat), .int .i64 0, (.slice none 0 0), (.map (some b47))]) w) ∧ True) hA hD ⟨fun w => by obtain ⟨_, _, _, e0⟩ := rd_form (H0.argT hE); rw [e0]; kernel_rfl, tv⟩ fun a hA => ?_
   exact (hM _ _ _ _).1 (hM76 _ _ _ b9 hge_b9 b157 hge_b157 b19 hge_b19 b47 hge_b47 (env_sub _ hA) H hD)
 have hM80 : ∀ (a : Act) (w159 : World) (S : Stab) (b11 : Nat) (hge_b11 : w6.heap.size ≤ b11) (b25 : Nat) (hge_b25 : w6.heap.size ≤ b25) (b55 : Nat) (hge_b55 : w6.heap.size ≤ b55), EnvOk 100 a (keepEnv [(2, pv b2), (3, pv b4), (12, .agg #[.int .i64 n, ve]), (14, iv n), (18, (.slice (some ⟨b11, 0, none⟩) n.toNat n.toNat)), (21, (.slice (some ⟨b25, 0, none⟩) n.toNat n.toNat)), (22, (.map (some b55)))]) → Fr o w159 S (mapR Try.prog 3 (α := List (Int)) b55 [] :: .box b25 3 (arrV n fun j => .int .i64 (Deep.St.zero.low j)) :: .box b11 3 (arrV n fun j => .int .i64 (Deep.St.zero.met j)) :: .box b4 29 [vv, vl] :: .box b2 24 [.int .i64 n, ve] :: tl) → But w6 none w159 → M 4 #[true, true, true, false, true, true, true, true, true, true, true, false, false, false] a w159 := by
   intro a w159 S b11 hge_b11 b25 hge_b25 b55 hge_b55 hA H hD
   refine (hM _ _ _ _).2 ?_
   refine m_one 3 ?_; refine q_makeA 3 15 67 (.tmp 14) 27 n (.slice none 0 0) [(2, pv b2), (3, pv b4), (12, .agg #[.int .i64 n, ve]), (18, (.slice (some ⟨b11, 0, none⟩) n.toNat n.toNat)), (21, (.slice (some ⟨b25, 0, none⟩) n.toNat n.toNat)), (22, (.map (some b55)))] hA H Try.underlying67 (make_info (by kernel_rfl)) (by omega) (by omega) fun b160 a w161 H hA hG hge_b160 => ?_
   replace hge_b160 := Nat.le_trans hD.1 hge_b160
   replace H : Fr _ _ _ (mapR Try.prog 3 (α := List (Int)) b55 [] :: .box b25 3 (arrV n fun j => .int .i64 (Deep.St.zero.low j)) :: .box b11 3 (arrV n fun j => .int .i64 (Deep.St.zero.met j)) :: .box b160 27 (arrV n (fun _ => .slice none 0 0)) :: .box b4 29 [vv, vl] :: .box b2 24 [.int .i64 n, ve] :: tl) := H.sink 1 3
   replace hD := hD.below hG
   refine ⟨fun _ => hD, ?_⟩
   refine m_take (n := 2) [11] #[true, true, true, true, true, true, true, true, true, true, true, true, false, false] [(23, .agg #[.int .i64 n, ve, (.slice (some ⟨b160, 0, none⟩) n.toNat n.toNat), (.slice (some ⟨b11, 0, none⟩) n.toNat n.toNat), (.slice (some ⟨b25, 0, none⟩) n.toNat n.toNat), .int .i64 0, (.slice none 0 0), (.map (some b55))])] [(2, pv b2), (3, pv b4), (23, .agg #[.int .i64 n, ve, (.slice (some ⟨b160, 0, none⟩) n.toNat n.toNat), (.slice (some ⟨b11, 0, none⟩) n.toNat n.toNat), (.slice (some ⟨b25, 0, none⟩) n.toNat n.toNat), .int .i64 0, (.slice none 0 0), (.map (some b55))])] ((∀ w, (Instr.build 106 #[(0, .agg #[.int .i64 n, ve]), (1, (.slice (some ⟨b160, 0, none⟩) n.toNat n.toNat)), (2, (.slice (some ⟨b11, 0, none⟩) n.toNat n.toNat)), (3, (.slice (some ⟨b25, 0, none⟩) n.toNat n.toNat)), (6, (.map (some b55)))]).run Try.prog w = .ok (.agg #[.int .i64 n, ve, (.slice (some ⟨b160, 0, none⟩) n.toNat n.toNat), (.slice (some ⟨b11, 0, none⟩) n.toNat n.toNat), (.slice (some ⟨b25, 0, none⟩) n.toNat n.toNat), .int .i64 0, (.slice none 0 0), (.map (some b55))]) w) ∧ True) hA hD ⟨fun w => by obtain ⟨_, _, _, e0⟩ := rd_form (H0.argT hE); rw [e0]; kernel_rfl, tv⟩ fun a hA => ?_
   exact (hM _ _ _ _).1 (hM76 _ _ _ b160 hge_b160 b11 hge_b11 b25 hge_b25 b55 hge_b55 (env_sub _ hA) H hD)
 have hM81 : ∀ (a : Act) (w162 : World) (S : Stab) (b9 : Nat) (hge_b9 : w6.heap.size ≤ b9) (b17 : Nat) (hge_b17 : w6.heap.size ≤ b17), EnvOk 100 a (keepEnv [(2, pv b2), (3, pv b4), (12, .agg #[.int .i64 n, ve]), (15, (.slice (some ⟨b9, 0, none⟩) n.toNat n.toNat)), (18, (.slice (some ⟨b17, 0, none⟩) n.toNat n.toNat)), (20, iv n)]) → Fr o w162 S (.box b17 3 (arrV n fun j => .int .i64 (Deep.St.zero.met j)) :: .box b9 27 (arrV n (fun _ => .slice none 0 0)) :: .box b4 29 [vv, vl] :: .box b2 24 [.int .i64 n, ve] :: tl) → But w6 none w162 → M 5 #[true, true, true, true, true, true, true, true, true, false, false, false, false, false] a w162 := by
   intro a w162 S b9 hge_b9 b17 hge_b17 hA H hD
   refine (hM _ _ _ _).2 ?_
   refine m_many [9, 10] fun i_ hi_ => ?_
   simp only [List.mem_cons, List.not_mem_nil, or_false] at hi_
   rcases hi_ with rfl | rfl
   · skip
     refine q_makeA 9 21 27 (.tmp 20) 3 n (.int .i64 0) [(2, pv b2), (3, pv b4), (12, .agg #[.int .i64 n, ve]), (15, (.slice (some ⟨b9, 0, none⟩) n.toNat n.toNat)), (18, (.slice (some ⟨b17, 0, none⟩) n.toNat n.toNat))] hA H Try.underlying27 (make_info (by kernel_rfl)) (by omega) (by omega) fun b163 a w164 H hA hG hge_b163 => ?_
     replace hge_b163 := Nat.le_trans hD.1 hge_b163
     replace hD := hD.below hG
     refine ⟨fun _ => hD, ?_⟩
     exact (hM _ _ _ _).1 (hM77 _ _ _ b9 hge_b9 b17 hge_b17 b163 hge_b163 (env_sub _ hA) H hD)
   skip
   refine q_makeMap (List (Int)) 3 10 22 104 [(2, pv b2), (3, pv b4), (12, .agg #[.int .i64 n, ve]), (15, (.slice (some ⟨b9, 0, none⟩) n.toNat n.toNat)), (18, (.slice (some ⟨b17, 0, none⟩) n.toNat n.toNat)), (20, iv n)] hA H fun b165 a w166 H hA hG hge_b165 => ?_
   replace hge_b165 := Nat.le_trans hD.1 hge_b165
   replace hD := hD.below hG
   refine ⟨fun _ => hD, ?_⟩
   exact (hM _ _ _ _).1 (hM78 _ _ _ b9 hge_b9 b17 hge_b17 b165 hge_b165 (env_sub _ hA) H hD)
 have hM82 : ∀ (a : Act) (w167 : World) (S : Stab) (b9 : Nat) (hge_b9 : w6.heap.size ≤ b9) (b19 : Nat) (hge_b19 : w6.heap.size ≤ b19), EnvOk 100 a (keepEnv [(2, pv b2), (3, pv b4), (12, .agg #[.int .i64 n, ve]), (15, (.slice (some ⟨b9, 0, none⟩) n.toNat n.toNat)), (17, iv n), (21, (.slice (some ⟨b19, 0, none⟩) n.toNat n.toNat))]) → Fr o w167 S (.box b19 3 (arrV n fun j => .int .i64 (Deep.St.zero.low j)) :: .box b9 27 (arrV n (fun _ => .slice none 0 0)) :: .box b4 29 [vv, vl] :: .box b2 24 [.int .i64 n, ve] :: tl) → But w6 none w167 → M 5 #[true, true, true, true, true, true, false, true, true, true, false, false, false, false] a w167 := by
   intro a w167 S b9 hge_b9 b19 hge_b19 hA H hD
   refine (hM _ _ _ _).2 ?_
   refine m_many [6, 10] fun i_ hi_ => ?_
   simp only [List.mem_cons, List.not_mem_nil, or_false] at hi_
   rcases hi_ with rfl | rfl
   · skip
     refine q_makeA 6 18 27 (.tmp 17) 3 n (.int .i64 0) [(2, pv b2), (3, pv b4), (12, .agg #[.int .i64 n, ve]), (15, (.slice (some ⟨b9, 0, none⟩) n.toNat n.toNat)), (21, (.slice (some ⟨b19, 0, none⟩) n.toNat n.toNat))] hA H Try.underlying27 (make_info (by kernel_rfl)) (by omega) (by omega) fun b168 a w169 H hA hG hge_b168 => ?_
     replace hge_b168 := Nat.le_trans hD.1 hge_b168
     replace H : Fr _ _ _ (.box b19 3 (arrV n fun j => .int .i64 (Deep.St.zero.low j)) :: .box b168 3 (arrV n fun j => .int .i64 (Deep.St.zero.met j)) :: .box b9 27 (arrV n (fun _ => .slice none 0 0)) :: .box b4 29 [vv, vl] :: .box b2 24 [.int .i64 n, ve] :: tl) := H.sink 1 1
     replace hD := hD.below hG
     refine ⟨fun _ => hD, ?_⟩
     exact (hM _ _ _ _).1 (hM77 _ _ _ b9 hge_b9 b168 hge_b168 b19 hge_b19 (env_sub _ hA) H hD)
   skip
   refine q_makeMap (List (Int)) 3 10 22 104 [(2, pv b2), (3, pv b4), (12, .agg #[.int .i64 n, ve]), (15, (.slice (some ⟨b9, 0, none⟩) n.toNat n.toNat)), (17, iv n), (21, (.slice (some ⟨b19, 0, none⟩) n.toNat n.toNat))] hA H fun b170 a w171 H hA hG hge_b170 => ?_
   replace hge_b170 := Nat.le_trans hD.1 hge_b170
   replace hD := hD.below hG
   refine ⟨fun _ => hD, ?_⟩
   exact (hM _ _ _ _).1 (hM79 _ _ _ b9 hge_b9 b19 hge_b19 b170 hge_b170 (env_sub _ hA) H hD)
 have hM83 : ∀ (a : Act) (w172 : World) (S : Stab) (b9 : Nat) (hge_b9 : w6.heap.size ≤ b9) (b21 : Nat) (hge_b21 : w6.heap.size ≤ b21), EnvOk 100 a (keepEnv [(2, pv b2), (3, pv b4), (12, .agg #[.int .i64 n, ve]), (15, (.slice (some ⟨b9, 0, none⟩) n.toNat n.toNat)), (17, iv n), (20, iv n), (22, (.map (some b21)))]) → Fr o w172 S (mapR Try.prog 3 (α := List (Int)) b21 [] :: .box b9 27 (arrV n (fun _ => .slice none 0 0)) :: .box b4 29 [vv, vl] :: .box b2 24 [.int .i64 n, ve] :: tl) → But w6 none w172 → M 5 #[true, true, true, true, true, true, false, true, true, false, true, false, false, false] a w172 := by
   intro a w172 S b9 hge_b9 b21 hge_b21 hA H hD
   refine (hM _ _ _ _).2 ?_
   refine m_many [6, 9] fun i_ hi_ => ?_
   simp only [List.mem_cons, List.not_mem_nil, or_false] at hi_
   rcases hi_ with rfl | rfl
   · skip
     refine q_makeA 6 18 27 (.tmp 17) 3 n (.int .i64 0) [(2, pv b2), (3, pv b4), (12, .agg #[.int .i64 n, ve]), (15, (.slice (some ⟨b9, 0, none⟩) n.toNat n.toNat)), (20, iv n), (22, (.map (some b21)))] hA H Try.underlying27 (make_info (by kernel_rfl)) (by omega) (by omega) fun b173 a w174 H hA hG hge_b173 => ?_
     replace hge_b173 := Nat.le_trans hD.1 hge_b173
     replace H : Fr _ _ _ (mapR Try.prog 3 (α := List (Int)) b21 [] :: .box b173 3 (arrV n fun j => .int .i64 (Deep.St.zero.met j)) :: .box b9 27 (arrV n (fun _ => .slice none 0 0)) :: .box b4 29 [vv, vl] :: .box b2 24 [.int .i64 n, ve] :: tl) := H.sink 1 1
     replace hD := hD.below hG
     refine ⟨fun _ => hD, ?_⟩
     exact (hM _ _ _ _).1 (hM78 _ _ _ b9 hge_b9 b173 hge_b173 b21 hge_b21 (env_sub _ hA) H hD)
   skip
   refine q_makeA 9 21 27 (.tmp 20) 3 n (.int .i64 0) [(2, pv b2), (3, pv b4), (12, .agg #[.int .i64 n, ve]), (15, (.slice (some ⟨b9, 0, none⟩) n.toNat n.toNat)), (17, iv n), (22, (.map (some b21)))] hA H Try.underlying27 (make_info (by kernel_rfl)) (by omega) (by omega) fun b175 a w176 H hA hG hge_b175 => ?_
   replace hge_b175 := Nat.le_trans hD.1 hge_b175
   replace H : Fr _ _ _ (mapR Try.prog 3 (α := List (Int)) b21 [] :: .box b175 3 (arrV n fun j => .int .i64 (Deep.St.zero.low j)) :: .box b9 27 (arrV n (fun _ => .slice none 0 0)) :: .box b4 29 [vv, vl] :: .box b2 24 [.int .i64 n, ve] :: tl) := H.sink 1 1
   replace hD := hD.below hG
   refine ⟨fun _ => hD, ?_⟩
   exact (hM _ _ _ _).1 (hM79 _ _ _ b9 hge_b9 b175 hge_b175 b21 hge_b21 (env_sub _ hA) H hD)
 have hM84 : ∀ (a : Act) (w177 : World) (S : Stab) (b11 : Nat) (hge_b11 : w6.heap.size ≤ b11) (b25 : Nat) (hge_b25 : w6.heap.size ≤ b25), EnvOk 100 a (keepEnv [(2, pv b2), (3, pv b4), (12, .agg #[.int .i64 n, ve]), (14, iv n), (18, (.slice (some ⟨b11, 0, none⟩) n.toNat n.toNat)), (21, (.slice (some ⟨b25, 0, none⟩) n.toNat n.toNat))]) → Fr o w177 S (.box b25 3 (arrV n fun j => .int .i64 (Deep.St.zero.low j)) :: .box b11 3 (arrV n fun j => .int .i64 (Deep.St.zero.met j)) :: .box b4 29 [vv, vl] :: .box b2 24 [.int .i64 n, ve] :: tl) → But w6 none w177 → M 5 #[true, true, true, false, true, true, true, true, true, true, false, false, false, false] a w177 := by
   intro a w177 S b11 hge_b11 b25 hge_b25 hA H hD
   refine (hM _ _ _ _).2 ?_
   refine m_many [3, 10] fun i_ hi_ => ?_
   simp only [List.mem_cons, List.not_mem_nil, or_false] at hi_
   rcases hi_ with rfl | rfl
   · skip
     refine q_makeA 3 15 67 (.tmp 14) 27 n (.slice none 0 0) [(2, pv b2), (3, pv b4), (12, .agg #[.int .i64 n, ve]), (18, (.slice (some ⟨b11, 0, none⟩) n.toNat n.toNat)), (21, (.slice (some ⟨b25, 0, none⟩) n.toNat n.toNat))] hA H Try.underlying67 (make_info (by kernel_rfl)) (by omega) (by omega) fun b178 a w179 H hA hG hge_b178 => ?_
     replace hge_b178 := Nat.le_trans hD.1 hge_b178
     replace H : Fr _ _ _ (.box b25 3 (arrV n fun j => .int .i64 (Deep.St.zero.low j)) :: .box b11 3 (arrV n fun j => .int .i64 (Deep.St.zero.met j)) :: .box b178 27 (arrV n (fun _ => .slice none 0 0)) :: .box b4 29 [vv, vl] :: .box b2 24 [.int .i64 n, ve] :: tl) := H.sink 1 2
     replace hD := hD.below hG
     refine ⟨fun _ => hD, ?_⟩
     exact (hM _ _ _ _).1 (hM77 _ _ _ b178 hge_b178 b11 hge_b11 b25 hge_b25 (env_sub _ hA) H hD)
   skip
   refine q_makeMap (List (Int)) 3 10 22 104 [(2, pv b2), (3, pv b4), (12, .agg #[.int .i64 n, ve]), (14, iv n), (18, (.slice (some ⟨b11, 0, none⟩) n.toNat n.toNat)), (21, (.slice (some ⟨b25, 0, none⟩) n.toNat n.toNat))] hA H fun b180 a w181 H hA hG hge_b180 => ?_
   replace hge_b180 := Nat.le_trans hD.1 hge_b180
   replace hD := hD.below hG
   refine ⟨fun _ => hD, ?_⟩
   exact (hM _ _ _ _).1 (hM80 _ _ _ b11 hge_b11 b25 hge_b25 b180 hge_b180 (env_sub _ hA) H hD)
 have hM85 : ∀ (a : Act) (w182 : World) (S : Stab) (b11 : Nat) (hge_b11 : w6.heap.size ≤ b11) (b27 : Nat) (hge_b27 : w6.heap.size ≤ b27), EnvOk 100 a (keepEnv [(2, pv b2), (3, pv b4), (12, .agg #[.int .i64 n, ve]), (14, iv n), (18, (.slice (some ⟨b11, 0, none⟩) n.toNat n.toNat)), (20, iv n), (22, (.map (some b27)))]) → Fr o w182 S (mapR Try.prog 3 (α := List (Int)) b27 [] :: .box b11 3 (arrV n fun j => .int .i64 (Deep.St.zero.met j)) :: .box b4 29 [vv, vl] :: .box b2 24 [.int .i64 n, ve] :: tl) → But w6 none w182 → M 5 #[true, true, true, false, true, true, true, true, true, false, true, false, false, false] a w182 := by
   intro a w182 S b11 hge_b11 b27 hge_b27 hA H hD
   refine (hM _ _ _ _).2 ?_
   refine m_many [3, 9] fun i_ hi_ => ?_
   simp only [List.mem_cons, List.not_mem_nil, or_false] at hi_
   rcases hi_ with rfl | rfl
   · skip
     refine q_makeA 3 15 67 (.tmp 14) 27 n (.slice none 0 0) [(2, pv b2), (3, pv b4), (12, .agg #[.int .i64 n, ve]), (18, (.slice (some ⟨b11, 0, none⟩) n.toNat n.toNat)), (20, iv n), (22, (.map (some b27)))] hA H Try.underlying67 (make_info (by kernel_rfl)) (by omega) (by omega) fun b183 a w184 H hA hG hge_b183 => ?_
     replace hge_b183 := Nat.le_trans hD.1 hge_b183
     replace H : Fr _ _ _ (mapR Try.prog 3 (α := List (Int)) b27 [] :: .box b11 3 (arrV n fun j => .int .i64 (Deep.St.zero.met j)) :: .box b183 27 (arrV n (fun _ => .slice none 0 0)) :: .box b4 29 [vv, vl] :: .box b2 24 [.int .i64 n, ve] :: tl) := H.sink 1 2
     replace hD := hD.below hG
     refine ⟨fun _ => hD, ?_⟩
     exact (hM _ _ _ _).1 (hM78 _ _ _ b183 hge_b183 b11 hge_b11 b27 hge_b27 (env_sub _ hA) H hD)
   skip
   refine q_makeA 9 21 27 (.tmp 20) 3 n (.int .i64 0) [(2, pv b2), (3, pv b4), (12, .agg #[.int .i64 n, ve]), (14, iv n), (18, (.slice (some ⟨b11, 0, none⟩) n.toNat n.toNat)), (22, (.map (some b27)))] hA H Try.underlying27 (make_info (by kernel_rfl)) (by omega) (by omega) fun b185 a w186 H hA hG hge_b185 => ?_
   replace hge_b185 := Nat.le_trans hD.1 hge_b185
   replace H : Fr _ _ _ (mapR Try.prog 3 (α := List (Int)) b27 [] :: .box b185 3 (arrV n fun j => .int .i64 (Deep.St.zero.low j)) :: .box b11 3 (arrV n fun j => .int .i64 (Deep.St.zero.met j)) :: .box b4 29 [vv, vl] :: .box b2 24 [.int .i64 n, ve] :: tl) := H.sink 1 1
   replace hD := hD.below hG
   refine ⟨fun _ => hD, ?_⟩
   exact (hM _ _ _ _).1 (hM80 _ _ _ b11 hge_b11 b185 hge_b185 b27 hge_b27 (env_sub _ hA) H hD)
 have hM86 : ∀ (a : Act) (w187 : World) (S : Stab) (b13 : Nat) (hge_b13 : w6.heap.size ≤ b13) (b33 : Nat) (hge_b33 : w6.heap.size ≤ b33), EnvOk 100 a (keepEnv [(2, pv b2), (3, pv b4), (12, .agg #[.int .i64 n, ve]), (14, iv n), (17, iv n), (21, (.slice (some ⟨b13, 0, none⟩) n.toNat n.toNat)), (22, (.map (some b33)))]) → Fr o w187 S (mapR Try.prog 3 (α := List (Int)) b33 [] :: .box b13 3 (arrV n fun j => .int .i64 (Deep.St.zero.low j)) :: .box b4 29 [vv, vl] :: .box b2 24 [.int .i64 n, ve] :: tl) → But w6 none w187 → M 5 #[true, true, true, false, true, true, false, true, true, true, true, false, false, false] a w187 := by
   intro a w187 S b13 hge_b13 b33 hge_b33 hA H hD
   refine (hM _ _ _ _).2 ?_
   refine m_many [3, 6] fun i_ hi_ => ?_
   simp only [List.mem_cons, List.not_mem_nil, or_false] at hi_
   rcases hi_ with rfl | rfl
   · skip
     refine q_makeA 3 15 67 (.tmp 14) 27 n (.slice none 0 0) [(2, pv b2), (3, pv b4), (12, .agg #[.int .i64 n, ve]), (17, iv n), (21, (.slice (some ⟨b13, 0, none⟩) n.toNat n.toNat)), (22, (.map (some b33)))] hA H Try.underlying67 (make_info (by kernel_rfl)) (by omega) (by omega) fun b188 a w189 H hA hG hge_b188 => ?_
     replace hge_b188 := Nat.le_trans hD.1 hge_b188
     replace H : Fr _ _ _ (mapR Try.prog 3 (α := List (Int)) b33 [] :: .box b13 3 (arrV n fun j => .int .i64 (Deep.St.zero.low j)) :: .box b188 27 (arrV n (fun _ => .slice none 0 0)) :: .box b4 29 [vv, vl] :: .box b2 24 [.int .i64 n, ve] :: tl) := H.sink 1 2
     replace hD := hD.below hG
     refine ⟨fun _ => hD, ?_⟩
     exact (hM _ _ _ _).1 (hM79 _ _ _ b188 hge_b188 b13 hge_b13 b33 hge_b33 (env_sub _ hA) H hD)
   skip
   refine q_makeA 6 18 27 (.tmp 17) 3 n (.int .i64 0) [(2, pv b2), (3, pv b4), (12, .agg #[.int .i64 n, ve]), (14, iv n), (21, (.slice (some ⟨b13, 0, none⟩) n.toNat n.toNat)), (22, (.map (some b33)))] hA H Try.underlying27 (make_info (by kernel_rfl)) (by omega) (by omega) fun b190 a w191 H hA hG hge_b190 => ?_
   replace hge_b190 := Nat.le_trans hD.1 hge_b190
   replace H : Fr _ _ _ (mapR Try.prog 3 (α := List (Int)) b33 [] :: .box b13 3 (arrV n fun j => .int .i64 (Deep.St.zero.low j)) :: .box b190 3 (arrV n fun j => .int .i64 (Deep.St.zero.met j)) :: .box b4 29 [vv, vl] :: .box b2 24 [.int .i64 n, ve] :: tl) := H.sink 1 2
   replace hD := hD.below hG
   refine ⟨fun _ => hD, ?_⟩
   exact (hM _ _ _ _).1 (hM80 _ _ _ b190 hge_b190 b13 hge_b13 b33 hge_b33 (env_sub _ hA) H hD)
 have hM87 : ∀ (a : Act) (w192 : World) (S : Stab) (b9 : Nat) (hge_b9 : w6.heap.size ≤ b9), EnvOk 100 a (keepEnv [(2, pv b2), (3, pv b4), (12, .agg #[.int .i64 n, ve]), (15, (.slice (some ⟨b9, 0, none⟩) n.toNat n.toNat)), (17, iv n), (20, iv n)]) → Fr o w192 S (.box b9 27 (arrV n (fun _ => .slice none 0 0)) :: .box b4 29 [vv, vl] :: .box b2 24 [.int .i64 n, ve] :: tl) → But w6 none w192 → M 6 #[true, true, true, true, true, true, false, true, true, false, false, false, false, false] a w192 := by
   intro a w192 S b9 hge_b9 hA H hD
   refine (hM _ _ _ _).2 ?_
   refine m_many [6, 9, 10] fun i_ hi_ => ?_
   simp only [List.mem_cons, List.not_mem_nil, or_false] at hi_
   rcases hi_ with rfl | rfl | rfl
   · skip
     refine q_makeA 6 18 27 (.tmp 17) 3 n (.int .i64 0) [(2, pv b2), (3, pv b4), (12, .agg #[.int .i64 n, ve]), (15, (.slice (some ⟨b9, 0, none⟩) n.toNat n.toNat)), (20, iv n)] hA H Try.underlying27 (make_info (by kernel_rfl)) (by omega) (by omega) fun b193 a w194 H hA hG hge_b193 => ?_
     replace hge_b193 := Nat.le_trans hD.1 hge_b193
     replace hD := hD.below hG
     refine ⟨fun _ => hD, ?_⟩
     exact (hM _ _ _ _).1 (hM81 _ _ _ b9 hge_b9 b193 hge_b193 (env_sub _ hA) H hD)
   · skip
     refine q_makeA 9 21 27 (.tmp 20) 3 n (.int .i64 0) [(2, pv b2), (3, pv b4), (12, .agg #[.int .i64 n, ve]), (15, (.slice (some ⟨b9, 0, none⟩) n.toNat n.toNat)), (17, iv n)] hA H Try.underlying27 (make_info (by kernel_rfl)) (by omega) (by omega) fun b195 a w196 H hA hG hge_b195 => ?_
     replace hge_b195 := Nat.le_trans hD.1 hge_b195
     replace hD := hD.below hG
     refine ⟨fun _ => hD, ?_⟩
     exact (hM _ _ _ _).1 (hM82 _ _ _ b9 hge_b9 b195 hge_b195 (env_sub _ hA) H hD)
   skip
   refine q_makeMap (List (Int)) 3 10 22 104 [(2, pv b2), (3, pv b4), (12, .agg #[.int .i64 n, ve]), (15, (.slice (some ⟨b9, 0, none⟩) n.toNat n.toNat)), (17, iv n), (20, iv n)] hA H fun b197 a w198 H hA hG hge_b197 => ?_
   replace hge_b197 := Nat.le_trans hD.1 hge_b197
   replace hD := hD.below hG
   refine ⟨fun _ => hD, ?_⟩
   exact (hM _ _ _ _).1 (hM83 _ _ _ b9 hge_b9 b197 hge_b197 (env_sub _ hA) H hD)
 have hM88 : ∀ (a : Act) (w199 : World) (S : Stab) (b11 : Nat) (hge_b11 : w6.heap.size ≤ b11), EnvOk 100 a (keepEnv [(2, pv b2), (3, pv b4), (12, .agg #[.int .i64 n, ve]), (14, iv n), (18, (.slice (some ⟨b11, 0, none⟩) n.toNat n.toNat)), (20, iv n)]) → Fr o w199 S (.box b11 3 (arrV n fun j => .int .i64 (Deep.St.zero.met j)) :: .box b4 29 [vv, vl] :: .box b2 24 [.int .i64 n, ve] :: tl) → But w6 none w199 → M 6 #[true, true, true, false, true, true, true, true, true, false, false, false, false, false] a w199 := by
   intro a w199 S b11 hge_b11 hA H hD
   refine (hM _ _ _ _).2 ?_
   refine m_many [3, 9, 10] fun i_ hi_ => ?_
   simp only [List.mem_cons, List.not_mem_nil, or_false] at hi_
   rcases hi_ with rfl | rfl | rfl
   · skip
     refine q_makeA 3 15 67 (.tmp 14) 27 n (.slice none 0 0) [(2, pv b2), (3, pv b4), (12, .agg #[.int .i64 n, ve]), (18, (.slice (some ⟨b11, 0, none⟩) n.toNat n.toNat)), (20, iv n)] hA H Try.underlying67 (make_info (by kernel_rfl)) (by omega) (by omega) fun b200 a w201 H hA hG hge_b200 => ?_
     replace hge_b200 := Nat.le_trans hD.1 hge_b200
     replace H : Fr _ _ _ (.box b11 3 (arrV n fun j => .int .i64 (Deep.St.zero.met j)) :: .box b200 27 (arrV n (fun _ => .slice none 0 0)) :: .box b4 29 [vv, vl] :: .box b2 24 [.int .i64 n, ve] :: tl) := H.sink 1 1
     replace hD := hD.below hG
     refine ⟨fun _ => hD, ?_⟩
     exact (hM _ _ _ _).1 (hM81 _ _ _ b200 hge_b200 b11 hge_b11 (env_sub _ hA) H hD)
   · skip
     refine q_makeA 9 21 27 (.tmp 20) 3 n (.int .i64 0) [(2, pv b2), (3, pv b4), (12, .agg #[.int .i64 n, ve]), (14, iv n), (18, (.slice (some ⟨b11, 0, none⟩) n.toNat n.toNat))] hA H Try.underlying27 (make_info (by kernel_rfl)) (by omega) (by omega) fun b202 a w203 H hA hG hge_b202 => ?_
     replace hge_b202 := Nat.le_trans hD.1 hge_b202
     replace hD := hD.below hG
     refine ⟨fun _ => hD, ?_⟩
     exact (hM _ _ _ _).1 (hM84 _ _ _ b11 hge_b11 b202 hge_b202 (env_sub _ hA) H hD)
   skip
   refine q_makeMap (List (Int)) 3 10 22 104 [(2, pv b2), (3, pv b4), (12, .agg #[.int .i64 n, ve]), (14, iv n), (18, (.slice (some ⟨b11, 0, none⟩) n.toNat n.toNat)), (20, iv n)] hA H fun b204 a w205 H hA hG hge_b204 => ?_
   replace hge_b204 := Nat.le_trans hD.1 hge_b204
   replace hD := hD.below hG
   refine ⟨fun _ => hD, ?_⟩
   exact (hM _ _ _ _).1 (hM85 _ _ _ b11 hge_b11 b204 hge_b204 (env_sub _ hA) H hD)
 have hM89 : ∀ (a : Act) (w206 : World) (S : Stab) (b13 : Nat) (hge_b13 : w6.heap.size ≤ b13), EnvOk 100 a (keepEnv [(2, pv b2), (3, pv b4), (12, .agg #[.int .i64 n, ve]), (14, iv n), (17, iv n), (21, (.slice (some ⟨b13, 0, none⟩) n.toNat n.toNat))]) → Fr o w206 S (.box b13 3 (arrV n fun j => .int .i64 (Deep.St.zero.low j)) :: .box b4 29 [vv, vl] :: .box b2 24 [.int .i64 n, ve] :: tl) → But w6 none w206 → M 6 #[true, true, true, false, true, true, false, true, true, true, false, false, false, false] a w206 := by
   intro a w206 S b13 hge_b13 hA H hD
   refine (hM _ _ _ _).2 ?_
   refine m_many [3, 6, 10] fun i_ hi_ => ?_
   simp only [List.mem_cons, List.not_mem_nil, or_false] at hi_
   rcases hi_ with rfl | rfl | rfl
   · skip
     refine q_makeA 3 15 67 (.tmp 14) 27 n (.slice none 0 0) [(2, pv b2), (3, pv b4), (12, .agg #[.int .i64 n, ve]), (17, iv n), (21, (.slice (some ⟨b13, 0, none⟩) n.toNat n.toNat))] hA H Try.underlying67 (make_info (by kernel_rfl)) (by omega) (by omega) fun b207 a w208 H hA hG hge_b207 => ?_
     replace hge_b207 := Nat.le_trans hD.1 hge_b207
     replace H : Fr _ _ _ (.box b13 3 (arrV n fun j => .int .i64 (Deep.St.zero.low j)) :: .box b207 27 (arrV n (fun _ => .slice none 0 0)) :: .box b4 29 [vv, vl] :: .box b2 24 [.int .i64 n, ve] :: tl) := H.sink 1 1
     replace hD := hD.below hG
     refine ⟨fun _ => hD, ?_⟩
     exact (hM _ _ _ _).1 (hM82 _ _ _ b207 hge_b207 b13 hge_b13 (env_sub _ hA) H hD)
   · skip
     refine q_makeA 6 18 27 (.tmp 17) 3 n (.int .i64 0) [(2, pv b2), (3, pv b4), (12, .agg #[.int .i64 n, ve]), (14, iv n), (21, (.slice (some ⟨b13, 0, none⟩) n.toNat n.toNat))] hA H Try.underlying27 (make_info (by kernel_rfl)) (by omega) (by omega) fun b209 a w210 H hA hG hge_b209 => ?_
     replace hge_b209 := Nat.le_trans hD.1 hge_b209
     replace H : Fr _ _ _ (.box b13 3 (arrV n fun j => .int .i64 (Deep.St.zero.low j)) :: .box b209 3 (arrV n fun j => .int .i64 (Deep.St.zero.met j)) :: .box b4 29 [vv, vl] :: .box b2 24 [.int .i64 n, ve] :: tl) := H.sink 1 1
     replace hD := hD.below hG
     refine ⟨fun _ => hD, ?_⟩
     exact (hM _ _ _ _).1 (hM84 _ _ _ b209 hge_b209 b13 hge_b13 (env_sub _ hA) H hD)
   skip
   refine q_makeMap (List (Int)) 3 10 22 104 [(2, pv b2), (3, pv b4), (12, .agg #[.int .i64 n, ve]), (14, iv n), (17, iv n), (21, (.slice (some ⟨b13, 0, none⟩) n.toNat n.toNat))] hA H fun b211 a w212 H hA hG hge_b211 => ?_
   replace hge_b211 := Nat.le_trans hD.1 hge_b211
   replace hD := hD.below hG
   refine ⟨fun _ => hD, ?_⟩
   exact (hM _ _ _ _).1 (hM86 _ _ _ b13 hge_b13 b211 hge_b211 (env_sub _ hA) H hD)
 have hM90 : ∀ (a : Act) (w213 : World) (S : Stab) (b15 : Nat) (hge_b15 : w6.heap.size ≤ b15), EnvOk 100 a (keepEnv [(2, pv b2), (3, pv b4), (12, .agg #[.int .i64 n, ve]), (14, iv n), (17, iv n), (20, iv n), (22, (.map (some b15)))]) → Fr o w213 S (mapR Try.prog 3 (α := List (Int)) b15 [] :: .box b4 29 [vv, vl] :: .box b2 24 [.int .i64 n, ve] :: tl) → But w6 none w213 → M 6 #[true, true, true, false, true, true, false, true, true, false, true, false, false, false] a w213 := by
   intro a w213 S b15 hge_b15 hA H hD
   refine (hM _ _ _ _).2 ?_
   refine m_many [3, 6, 9] fun i_ hi_ => ?_
   simp only [List.mem_cons, List.not_mem_nil, or_false] at hi_
   rcases hi_ with rfl | rfl | rfl
   · skip
     refine q_makeA 3 15 67 (.tmp 14) 27 n (.slice none 0 0) [(2, pv b2), (3, pv b4), (12, .agg #[.int .i64 n, ve]), (17, iv n), (20, iv n), (22, (.map (some b15)))] hA H Try.underlying67 (make_info (by kernel_rfl)) (by omega) (by omega) fun b214 a w215 H hA hG hge_b214 => ?_
     replace hge_b214 := Nat.le_trans hD.1 hge_b214
     replace H : Fr _ _ _ (mapR Try.prog 3 (α := List (Int)) b15 [] :: .box b214 27 (arrV n (fun _ => .slice none 0 0)) :: .box b4 29 [vv, vl] :: .box b2 24 [.int .i64 n, ve] :: tl) := H.sink 1 1
     replace hD := hD.below hG
     refine ⟨fun _ => hD, ?_⟩
     exact (hM _ _ _ _).1 (hM83 _ _ _ b214 hge_b214 b15 hge_b15 (env_sub _ hA) H hD)
   · skip
     refine q_makeA 6 18 27 (.tmp 17) 3 n (.int .i64 0) [(2, pv b2), (3, pv b4), (12, .agg #[.int .i64 n, ve]), (14, iv n), (20, iv n), (22, (.map (some b15)))] hA H Try.underlying27 (make_info (by kernel_rfl)) (by omega) (by omega) fun b216 a w217 H hA hG hge_b216 => ?_
     replace hge_b216 := Nat.le_trans hD.1 hge_b216
     replace H : Fr _ _ _ (mapR Try.prog 3 (α := List (Int)) b15 [] :: .box b216 3 (arrV n fun j => .int .i64 (Deep.St.zero.met j)) :: .box b4 29 [vv, vl] :: .box b2 24 [.int .i64 n, ve] :: tl) := H.sink 1 1
     replace hD := hD.below hG
     refine ⟨fun _ => hD, ?_⟩
     exact (hM _ _ _ _).1 (hM85 _ _ _ b216 hge_b216 b15 hge_b15 (env_sub _ hA) H hD)
   skip
   refine q_makeA 9 21 27 (.tmp 20) 3 n (.int .i64 0) [(2, pv b2), (3, pv b4), (12, .agg #[.int .i64 n, ve]), (14, iv n), (17, iv n), (22, (.map (some b15)))] hA H Try.underlying27 (make_info (by kernel_rfl)) (by omega) (by omega) fun b218 a w219 H hA hG hge_b218 => ?_
   replace hge_b218 := Nat.le_trans hD.1 hge_b218
   replace H : Fr _ _ _ (mapR Try.prog 3 (α := List (Int)) b15 [] :: .box b218 3 (arrV n fun j => .int .i64 (Deep.St.zero.low j)) :: .box b4 29 [vv, vl] :: .box b2 24 [.int .i64 n, ve] :: tl) := H.sink 1 1
   replace hD := hD.below hG
   refine ⟨fun _ => hD, ?_⟩
   exact (hM _ _ _ _).1 (hM86 _ _ _ b218 hge_b218 b15 hge_b15 (env_sub _ hA) H hD)
 have hM91 : ∀ (a : Act) (w220 : World) (S : Stab), EnvOk 100 a (keepEnv [(2, pv b2), (3, pv b4), (12, .agg #[.int .i64 n, ve]), (14, iv n), (17, iv n), (20, iv n)]) → Fr o w220 S (.box b4 29 [vv, vl] :: .box b2 24 [.int .i64 n, ve] :: tl) → But w6 none w220 → M 7 #[true, true, true, false, true, true, false, true, true, false, false, false, false, false] a w220 := by
   intro a w220 S  hA H hD
   refine (hM _ _ _ _).2 ?_
   refine m_many [3, 6, 9, 10] fun i_ hi_ => ?_
   simp only [List.mem_cons, List.not_mem_nil, or_false] at hi_
   rcases hi_ with rfl | rfl | rfl | rfl
   · skip
     refine q_makeA 3 15 67 (.tmp 14) 27 n (.slice none 0 0) [(2, pv b2), (3, pv b4), (12, .agg #[.int .i64 n, ve]), (17, iv n), (20, iv n)] hA H Try.underlying67 (make_info (by kernel_rfl)) (by omega) (by omega) fun b221 a w222 H hA hG hge_b221 => ?_
     replace hge_b221 := Nat.le_trans hD.1 hge_b221
     replace hD := hD.below hG
     refine ⟨fun _ => hD, ?_⟩
     exact (hM _ _ _ _).1 (hM87 _ _ _ b221 hge_b221 (env_sub _ hA) H hD)
   · skip
     refine q_makeA 6 18 27 (.tmp 17) 3 n (.int .i64 0) [(2, pv b2), (3, pv b4), (12, .agg #[.int .i64 n, ve]), (14, iv n), (20, iv n)] hA H Try.underlying27 (make_info (by kernel_rfl)) (by omega) (by omega) fun b223 a w224 H hA hG hge_b223 => ?_
     replace hge_b223 := Nat.le_trans hD.1 hge_b223
     replace hD := hD.below hG
     refine ⟨fun _ => hD, ?_⟩
     exact (hM _ _ _ _).1 (hM88 _ _ _ b223 hge_b223 (env_sub _ hA) H hD)
   · skip
     refine q_makeA 9 21 27 (.tmp 20) 3 n (.int .i64 0) [(2, pv b2), (3, pv b4), (12, .agg #[.int .i64 n, ve]), (14, iv n), (17, iv n)] hA H Try.underlying27 (make_info (by kernel_rfl)) (by omega) (by omega) fun b225 a w226 H hA hG hge_b225 => ?_
     replace hge_b225 := Nat.le_trans hD.1 hge_b225
     replace hD := hD.below hG
     refine ⟨fun _ => hD, ?_⟩
     exact (hM _ _ _ _).1 (hM89 _ _ _ b225 hge_b225 (env_sub _ hA) H hD)
   skip
   refine q_makeMap (List (Int)) 3 10 22 104 [(2, pv b2), (3, pv b4), (12, .agg #[.int .i64 n, ve]), (14, iv n), (17, iv n), (20, iv n)] hA H fun b227 a w228 H hA hG hge_b227 => ?_
   replace hge_b227 := Nat.le_trans hD.1 hge_b227
   replace hD := hD.below hG
   refine ⟨fun _ => hD, ?_⟩
   exact (hM _ _ _ _).1 (hM90 _ _ _ b227 hge_b227 (env_sub _ hA) H hD)
 exact hM91 _ _ _ (env_sub _ hA) H hD
end Go.Proofs.Ytahonnlgkmimlaa
namespace Go.Proofs.Ytahonnlgkmimlaa
open Go.RowKit Go.Proofs.Ytahonnlgkmimlaa.Deep
section
variable {n : Int} {E : List (Int × Int)} {V L : List Int}
theorem nodup_le {l m : List Int} (h : l.Nodup) (hs : ∀ x ∈ l, x ∈ m) : l.length ≤ m.length := h.length_le_of_subset hs
theorem sum_le {f : Int → Nat} {b : Nat} (h : ∀ x, f x ≤ b) : ∀ l : List Int, (l.map f).sum ≤ l.length * b
 | [] => by simp
 | x :: l => by
   have := sum_le h l
   have := h x
   simp only [List.map_cons, List.sum_cons, List.length_cons, Nat.add_mul]
   omega
theorem dartsL_le (E : List (Int × Int)) (x : Int) : ∀ L : List Int, (dartsL E L x).length ≤ 2 * L.length
 | [] => by simp [dartsL]
 | e :: L => by
   have := dartsL_le E x L
   have h : dartsL E (e :: L) x = dartsL E [e] x ++ dartsL E L x := by rw [← dartsL_app]; rfl
   have h2 : (dartsL E [e] x).length ≤ 2 := by
     show (List.flatMap _ [_]).length ≤ 2
     rw [List.flatMap_cons, List.flatMap_nil, List.append_nil, dartsFrom_0, List.length_append]
     split <;> split <;> simp
   rw [h, List.length_append, List.length_cons]
   omega
theorem find_ex (hp : partE n E V L = 0) : ∃ s', Deep.Roots (dartsL E L) (headE E) V Deep.St.zero s' ∧ Deep.Bd s' ∧ Deep.Rest (grE E L) s' ∧ ∀ v ∈ V, s'.met v ≠ 0 := by
 obtain ⟨hr, hVr, hL, hV⟩ := part_iff.1 hp
 have hr9 := rightE_0 hr
 have hl9 := rises_len hL (by omega)
 have hv9 := rises_len hVr (by omega)
 have HD := darts_ok (E := E) hL
 have h0 : (-1 : Int) ∉ (grE E L).L := fun h => by have := ((rises_iff.1 hL).2 _ h).1; omega
 have hU : ∀ v d, d ∈ dartsL E L v → headE E d ∈ V := fun v d hd => by
   obtain ⟨h1, h2⟩ := HD.mem v d hd
   exact hV _ h1 _ (h2.right)
 obtain ⟨s', hs⟩ := roots_ex HD h0 V hU V St.zero (fun _ h => h) rest_zero
 obtain ⟨R, hm, _⟩ := roots_rest HD h0 hs rest_zero
 obtain ⟨i1, i2⟩ := roots_ins hU hs (fun _ h => h) (Int.le_refl _)
 have ha : Deep.ahead (dartsL E L) V St.zero ≤ V.length * (2 * L.length) := sum_le (fun x => by
   split
   · exact dartsL_le E x L
   exact Nat.zero_le _) V
 have hlf : Deep.left V St.zero ≤ V.length := List.length_filter_le _ _
 have hb1 : V.length * (2 * L.length) ≤ 1024 * 2048 := Nat.mul_le_mul (by omega) (by omega)
 have hin : ∀ f ∈ s'.blk.flatten, f ∈ L := fun f hf => by
   obtain ⟨b, hb, hfb⟩ := List.mem_flatten.1 hf
   exact ((good_of R.glob.good b hb).1 f hfb).1
 have hnd : s'.blk.flatten.Nodup := by have := R.glob.nd; rw [R.stk, List.append_nil] at this; exact this
 have z1 : (St.zero).ins.length = 0 := rfl
 have z2 : (St.zero).cnt = 0 := rfl
 refine ⟨s', hs, ⟨by omega, ?_, ?_, by omega⟩, R, hm⟩
 · rw [R.stk, List.append_nil]; have := nodup_le hnd hin; omega
 rw [R.stk, List.append_nil]; intro f hf; have := (rises_iff.1 hL).2 f (hin f hf); omega
end
end Go.Proofs.Ytahonnlgkmimlaa
