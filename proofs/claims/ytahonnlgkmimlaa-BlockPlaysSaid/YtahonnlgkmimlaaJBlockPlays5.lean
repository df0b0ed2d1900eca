/-
  Texts joined by program: WalkG5, WalkG3, WalkG4, WalkG6.
-/
import Derived.Test.YtahonnlgkmimlaaProg
import Derived.Test.YtahonnlgkmimlaaJBlockPlays4
set_option linter.unusedSimpArgs false
set_option linter.unusedVariables false
namespace Go.Proofs.Ytahonnlgkmimlaa
open Go.RowKit

set_option maxRecDepth 100000 in
set_option maxHeartbeats 1000000 in
theorem equal_any (v u : Value) (l m : List Int) (w : World) (hl : Rd (· < w.heap.size) w v l) (hm : Rd (· < w.heap.size) w u m) :
  Calls Try.prog 76 [v, u].toArray w (Ans (.bool (decide (l = m))) w) := by
  have hlen := rd_len hl
  refine enter Try.f76 26 Try.func76 fun a hA => ?_
  replace hA := env_sub [(0, v), (1, u)] hA
  have H := Fr.start (org w)
  refine go_seq fun K1 hK1 => ?_
  refine q_reg [] [(0, v), (1, u)] ((True) ∧ True) hA H ⟨trivial, trivial⟩ fun a w2 hA H hG => ?_
  refine hK1 _ _ ?_
  refine go_seq fun K3 hK3 => ?_
  refine go_seq fun K4 hK4 => ?_
  refine q_reg [(7, .int .i64 (l.length : Int)), (9, .int .i64 (m.length : Int))] [(0, v), (1, u), (10, .bool (!decide ((l.length : Int) = (m.length : Int))))] ((True) ∧ (LenOk v (l.length : Int)) ∧ (True) ∧ (LenOk u (m.length : Int)) ∧ (True) ∧ True) hA H ⟨trivial, by exact len_ok (H.arg hl), trivial, by exact len_ok (H.arg hm), trivial, trivial⟩ fun a w5 hA H hG => ?_
  refine hK4 _ _ ?_
  refine go_cond hA (.tmp 10) (!decide ((l.length : Int) = (m.length : Int))) (fun hb6 => ?_) (fun hb6 => ?_)
  · have hhb6 := of_decide_eq_false (nT hb6)
    refine go_seq fun K7 hK7 => ?_
    refine q_reg [] [(4, .bool false)] ((True) ∧ True) hA H ⟨trivial, trivial⟩ fun a w8 hA H hG => ?_
    refine hK7 _ _ ?_
    refine go_ret_ ?_
    refine ret_one 4 (.bool false) hA ?_
    exact ans_b' ((decide_eq_false (fun q => hhb6 (by rw [q]))).symm) H.below
  · have hhb6 := of_decide_eq_true (nF hb6)
    refine go_skip ?_
    refine hK3 _ _ ?_
    refine go_seq fun K9 hK9 => ?_
    refine go_seq fun K10 hK10 => ?_
    refine q_reg [(12, .int .i64 (l.length : Int))] [(0, v), (1, u), (12, .int .i64 (l.length : Int)), (13, .int .i64 0)] ((True) ∧ (LenOk v (l.length : Int)) ∧ (True) ∧ True) hA H ⟨trivial, by exact len_ok (H.arg hl), trivial, trivial⟩ fun a w11 hA H hG => ?_
    refine hK10 _ _ ?_
    refine go_block 0 ?_
    refine go_loop_ (Int) (fun x_ a W => (fun (i : Int) => EnvOk 26 a (keepEnv [(0, v), (1, u), (12, .int .i64 (l.length : Int)), (13, .int .i64 i)]) ∧ (∃ S, Fr (org w) W S []) ∧ 0 ≤ i ∧ ∀ j : Nat, (j : Int) < i → l.getD j 0 = m.getD j 0) x_) (fun x_ => (fun (i : Int) => ((l.length : Int) - i).toNat) x_) (0) ?_ (fun i a w13 hI => ?_)
    · (try dsimp only); exact ⟨env_sub _ hA, ⟨_, H⟩, by omega, fun j hj => by omega⟩
    obtain ⟨hA, ⟨S, H⟩, h0, hok⟩ := hI
    try dsimp only at h0 hok
    refine go_seq fun K14 hK14 => ?_
    refine q_reg [] [(0, v), (1, u), (12, .int .i64 (l.length : Int)), (13, .int .i64 i), (14, .bool (decide (i < (l.length : Int))))] ((True) ∧ True) hA H ⟨trivial, trivial⟩ fun a w15 hA H hG => ?_
    refine hK14 _ _ ?_
    refine go_seq fun K16 hK16 => ?_
    refine go_cond hA (.tmp 14) (decide (i < (l.length : Int))) (fun hb17 => ?_) (fun hb17 => ?_)
    · have hhb17 := of_decide_eq_true hb17
      refine go_skip ?_
      refine hK16 _ _ ?_
      refine go_seq fun K18 hK18 => ?_
      refine go_block 1 ?_
      refine go_seq fun K19 hK19 => ?_
      refine q_reg [] [(0, v), (1, u), (5, .int .i64 i), (12, .int .i64 (l.length : Int)), (13, .int .i64 i)] ((True) ∧ (True) ∧ True) hA H ⟨trivial, trivial, trivial⟩ fun a w20 hA H hG => ?_
      refine hK19 _ _ ?_
      refine go_seq fun K21 hK21 => ?_
      refine q_draw [(19, .int .i64 (l.getD i.toNat 0)), (23, .int .i64 (m.getD i.toNat 0))] [(0, v), (1, u), (12, .int .i64 (l.length : Int)), (13, .int .i64 i), (24, .bool (!decide ((l.getD i.toNat 0) = (m.getD i.toNat 0))))] ((True) ∧ (True) ∧ ((Try.prog.info? 3).isSome = true ∧ IdxOk v i) ∧ (CellOk (On w20) (hdB v) (hdO v + i.toNat * 1) (.int .i64 (l.getD i.toNat 0))) ∧ (True) ∧ (True) ∧ ((Try.prog.info? 3).isSome = true ∧ IdxOk u i) ∧ (CellOk (On w20) (hdB u) (hdO u + i.toNat * 1) (.int .i64 (m.getD i.toNat 0))) ∧ (True) ∧ True) hA H ⟨trivial, trivial, ⟨by kernel_rfl, by exact idx_ok (H.arg hl) (by omega) (by omega)⟩, by exact cell_flat (i := i) (H.arg hl) (by omega) (by omega) 0 0, trivial, trivial, ⟨by kernel_rfl, by exact idx_ok (H.arg hm) (by omega) (by omega)⟩, by exact cell_flat (i := i) (H.arg hm) (by omega) (by omega) 0 0, trivial, trivial⟩ fun a w22 hA H hG => ?_
      refine hK21 _ _ ?_
      refine go_cond hA (.tmp 24) (!decide ((l.getD i.toNat 0) = (m.getD i.toNat 0))) (fun hb23 => ?_) (fun hb23 => ?_)
      · have hhb23 := of_decide_eq_false (nT hb23)
        refine go_seq fun K24 hK24 => ?_
        refine q_reg [] [(4, .bool false)] ((True) ∧ True) hA H ⟨trivial, trivial⟩ fun a w25 hA H hG => ?_
        refine hK24 _ _ ?_
        refine go_ret_ ?_
        refine ret_one 4 (.bool false) hA ?_
        exact ans_b' ((decide_eq_false (fun q => hhb23 (by rw [q]))).symm) H.below
      · have hhb23 := of_decide_eq_true (nF hb23)
        refine go_skip ?_
        refine hK18 _ _ ?_
        refine q_reg [] [(0, v), (1, u), (12, .int .i64 (l.length : Int)), (13, .int .i64 (i + 1))] ((InR .i64 (i + 1)) ∧ (True) ∧ True) hA H ⟨⟨by omega, by omega⟩, trivial, trivial⟩ fun a w26 hA H hG => ?_
        refine ⟨(i + 1), ⟨env_sub _ hA, ⟨_, H⟩, ?_⟩, ?_⟩
        · (try dsimp only); exact ⟨by omega, fun j hj => if e : (j : Int) = i then (by rw [show j = i.toNat by omega]; exact hhb23) else hok j (by omega)⟩
        · (try dsimp only); omega
    · have hhb17 := of_decide_eq_false hb17
      refine go_exit 0 ?_
      refine hK9 _ _ ?_
      refine go_seq fun K27 hK27 => ?_
      refine q_reg [] [(4, .bool true)] ((True) ∧ True) hA H ⟨trivial, trivial⟩ fun a w28 hA H hG => ?_
      refine hK27 _ _ ?_
      refine go_ret_ ?_
      refine ret_one 4 (.bool true) hA ?_
      exact ans_b' ((decide_eq_true (eq_of_getD hhb6 (fun j hj => hok j (by omega)))).symm) H.below

set_option maxRecDepth 100000 in
set_option maxHeartbeats 1000000 in
theorem requal_any (v u : Value) (l m : List Int) (w : World) (hl : Rd (· < w.heap.size) w v l) (hm : Rd (· < w.heap.size) w u m) :
  Calls Try.prog 36 [v, u].toArray w (Ans (.bool (decide (l = m))) w) := by
  have hlen := rd_len hl
  refine enter Try.f36 26 Try.func36 fun a hA => ?_
  replace hA := env_sub [(0, v), (1, u)] hA
  have H := Fr.start (org w)
  refine go_seq fun K1 hK1 => ?_
  refine q_reg [] [(0, v), (1, u)] ((True) ∧ True) hA H ⟨trivial, trivial⟩ fun a w2 hA H hG => ?_
  refine hK1 _ _ ?_
  refine go_seq fun K3 hK3 => ?_
  refine go_seq fun K4 hK4 => ?_
  refine q_reg [(7, .int .i64 (l.length : Int)), (9, .int .i64 (m.length : Int))] [(0, v), (1, u), (10, .bool (!decide ((l.length : Int) = (m.length : Int))))] ((True) ∧ (LenOk v (l.length : Int)) ∧ (True) ∧ (LenOk u (m.length : Int)) ∧ (True) ∧ True) hA H ⟨trivial, by exact len_ok (H.arg hl), trivial, by exact len_ok (H.arg hm), trivial, trivial⟩ fun a w5 hA H hG => ?_
  refine hK4 _ _ ?_
  refine go_cond hA (.tmp 10) (!decide ((l.length : Int) = (m.length : Int))) (fun hb6 => ?_) (fun hb6 => ?_)
  · have hhb6 := of_decide_eq_false (nT hb6)
    refine go_seq fun K7 hK7 => ?_
    refine q_reg [] [(4, .bool false)] ((True) ∧ True) hA H ⟨trivial, trivial⟩ fun a w8 hA H hG => ?_
    refine hK7 _ _ ?_
    refine go_ret_ ?_
    refine ret_one 4 (.bool false) hA ?_
    exact ans_b' ((decide_eq_false (fun q => hhb6 (by rw [q]))).symm) H.below
  · have hhb6 := of_decide_eq_true (nF hb6)
    refine go_skip ?_
    refine hK3 _ _ ?_
    refine go_seq fun K9 hK9 => ?_
    refine go_seq fun K10 hK10 => ?_
    refine q_reg [] [(0, v), (1, u), (5, .int .i64 0)] ((True) ∧ True) hA H ⟨trivial, trivial⟩ fun a w11 hA H hG => ?_
    refine hK10 _ _ ?_
    refine go_block 0 ?_
    refine go_loop_ (Int) (fun x_ a W => (fun (i : Int) => EnvOk 26 a (keepEnv [(0, v), (1, u), (5, .int .i64 i)]) ∧ (∃ S, Fr (org w) W S []) ∧ 0 ≤ i ∧ ∀ j : Nat, (j : Int) < i → l.getD j 0 = m.getD j 0) x_) (fun x_ => (fun (i : Int) => ((l.length : Int) - i).toNat) x_) (0) ?_ (fun i a w13 hI => ?_)
    · (try dsimp only); exact ⟨env_sub _ hA, ⟨_, H⟩, by omega, fun j hj => by omega⟩
    obtain ⟨hA, ⟨S, H⟩, h0, hok⟩ := hI
    try dsimp only at h0 hok
    refine go_seq fun K14 hK14 => ?_
    refine go_seq fun K15 hK15 => ?_
    refine q_reg [(13, .int .i64 (l.length : Int))] [(0, v), (1, u), (5, .int .i64 i), (14, .bool (decide (i < (l.length : Int))))] ((True) ∧ (True) ∧ (LenOk v (l.length : Int)) ∧ (True) ∧ True) hA H ⟨trivial, trivial, by exact len_ok (H.arg hl), trivial, trivial⟩ fun a w16 hA H hG => ?_
    refine hK15 _ _ ?_
    refine go_cond hA (.tmp 14) (decide (i < (l.length : Int))) (fun hb17 => ?_) (fun hb17 => ?_)
    · have hhb17 := of_decide_eq_true hb17
      refine go_skip ?_
      refine hK14 _ _ ?_
      refine go_seq fun K18 hK18 => ?_
      refine go_block 1 ?_
      refine go_seq fun K19 hK19 => ?_
      refine q_draw [(20, .int .i64 (l.getD i.toNat 0)), (24, .int .i64 (m.getD i.toNat 0))] [(0, v), (1, u), (5, .int .i64 i), (25, .bool (!decide ((l.getD i.toNat 0) = (m.getD i.toNat 0))))] ((True) ∧ (True) ∧ ((Try.prog.info? 3).isSome = true ∧ IdxOk v i) ∧ (CellOk (On w16) (hdB v) (hdO v + i.toNat * 1) (.int .i64 (l.getD i.toNat 0))) ∧ (True) ∧ (True) ∧ ((Try.prog.info? 3).isSome = true ∧ IdxOk u i) ∧ (CellOk (On w16) (hdB u) (hdO u + i.toNat * 1) (.int .i64 (m.getD i.toNat 0))) ∧ (True) ∧ True) hA H ⟨trivial, trivial, ⟨by kernel_rfl, by exact idx_ok (H.arg hl) (by omega) (by omega)⟩, by exact cell_flat (i := i) (H.arg hl) (by omega) (by omega) 0 0, trivial, trivial, ⟨by kernel_rfl, by exact idx_ok (H.arg hm) (by omega) (by omega)⟩, by exact cell_flat (i := i) (H.arg hm) (by omega) (by omega) 0 0, trivial, trivial⟩ fun a w20 hA H hG => ?_
      refine hK19 _ _ ?_
      refine go_cond hA (.tmp 25) (!decide ((l.getD i.toNat 0) = (m.getD i.toNat 0))) (fun hb21 => ?_) (fun hb21 => ?_)
      · have hhb21 := of_decide_eq_false (nT hb21)
        refine go_seq fun K22 hK22 => ?_
        refine q_reg [] [(4, .bool false)] ((True) ∧ True) hA H ⟨trivial, trivial⟩ fun a w23 hA H hG => ?_
        refine hK22 _ _ ?_
        refine go_ret_ ?_
        refine ret_one 4 (.bool false) hA ?_
        exact ans_b' ((decide_eq_false (fun q => hhb21 (by rw [q]))).symm) H.below
      · have hhb21 := of_decide_eq_true (nF hb21)
        refine go_skip ?_
        refine hK18 _ _ ?_
        refine q_reg [] [(0, v), (1, u), (5, .int .i64 (i + 1))] ((True) ∧ (InR .i64 (i + 1)) ∧ (True) ∧ True) hA H ⟨trivial, ⟨by omega, by omega⟩, trivial, trivial⟩ fun a w24 hA H hG => ?_
        refine ⟨(i + 1), ⟨env_sub _ hA, ⟨_, H⟩, ?_⟩, ?_⟩
        · (try dsimp only); exact ⟨by omega, fun j hj => if e : (j : Int) = i then (by rw [show j = i.toNat by omega]; exact hhb21) else hok j (by omega)⟩
        · (try dsimp only); omega
    · have hhb17 := of_decide_eq_false hb17
      refine go_exit 0 ?_
      refine hK9 _ _ ?_
      refine go_seq fun K25 hK25 => ?_
      refine q_reg [] [(4, .bool true)] ((True) ∧ True) hA H ⟨trivial, trivial⟩ fun a w26 hA H hG => ?_
      refine hK25 _ _ ?_
      refine go_ret_ ?_
      refine ret_one 4 (.bool true) hA ?_
      exact ans_b' ((decide_eq_true (eq_of_getD hhb6 (fun j hj => hok j (by omega)))).symm) H.below

set_option maxRecDepth 100000 in
set_option maxHeartbeats 1000000 in
theorem same_any (va ea vb eb : Value) (A B C D : List Int) (w : World) (gA : Rd (· < w.heap.size) w va A) (gB : Rd (· < w.heap.size) w ea B) (gC : Rd (· < w.heap.size) w vb C) (gD : Rd (· < w.heap.size) w eb D) :
  Calls Try.prog 28 [.agg #[va, ea], .agg #[vb, eb]].toArray w (Ans (.bool (decide (A = C) && decide (B = D))) w) := by
  refine enter Try.f28 17 Try.func28 fun a hA => ?_
  replace hA := env_sub [(0, .agg #[va, ea]), (1, .agg #[vb, eb])] hA
  have H := Fr.start (org w)
  refine go_seq fun K1 hK1 => ?_
  refine region_list ?_
  refine list_at 0 ?_; refine q_box 0 2 29 (.tmp 0) (.agg #[va, ea]) [va, ea] [(1, .agg #[vb, eb])] hA H fun b2 a w3 H hA hG hge_b2 => ?_
  clear hge_b2
  refine list_at 1 ?_; refine q_box 1 3 29 (.tmp 1) (.agg #[vb, eb]) [vb, eb] [(2, .pointer (some ⟨b2, 0, none⟩))] hA H fun b4 a w5 H hA hG hge_b4 => ?_
  clear hge_b4
  refine q_list 2 1 [] [(2, .pointer (some ⟨b2, 0, none⟩)), (3, .pointer (some ⟨b4, 0, none⟩))] ((True) ∧ True) hA H ⟨trivial, trivial⟩ fun a w6 hA H hG => ?_
  refine list_end ?_
  refine hK1 _ _ ?_
  refine go_seq fun K7 hK7 => ?_
  refine q_reg [(6, va), (8, vb), (9, .bool (decide (A = C))), (12, ea), (14, eb), (15, .bool (decide (B = D)))] [(4, .bool ((decide (A = C)) && (decide (B = D))))] ((0 < Try.prog.cellsOf 27) ∧ (CellOk (On w6) b2 (0 + 0) (va)) ∧ (0 < Try.prog.cellsOf 27) ∧ (CellOk (On w6) b4 (0 + 0) (vb)) ∧ (Callable Try.prog 76 ∧ CallOk Try.prog (On w6) 76 [va, vb].toArray (.bool (decide (A = C)))) ∧ (True) ∧ ((decide (A = C)) = true → 0 < Try.prog.cellsOf 27) ∧ ((decide (A = C)) = true → CellOk (On w6) b2 (0 + 1) (ea)) ∧ ((decide (A = C)) = true → 0 < Try.prog.cellsOf 27) ∧ ((decide (A = C)) = true → CellOk (On w6) b4 (0 + 1) (eb)) ∧ ((decide (A = C)) = true → Callable Try.prog 76 ∧ CallOk Try.prog (On w6) 76 [ea, eb].toArray (.bool (decide (B = D)))) ∧ (True) ∧ (True) ∧ True) hA H ⟨by decide +kernel, by exact box_cell H 1 rfl 0, by decide +kernel, by exact box_cell H 0 rfl 0, ⟨callable_of, callOk_of fun w hw => by exact equal_any va vb A C w (((H.on hw).arg gA)) (((H.on hw).arg gC))⟩, trivial, fun _ => by decide +kernel, fun _ => by exact box_cell H 1 rfl 1, fun _ => by decide +kernel, fun _ => by exact box_cell H 0 rfl 1, fun _ => ⟨callable_of, callOk_of fun w hw => by exact equal_any ea eb B D w (((H.on hw).arg gB)) (((H.on hw).arg gD))⟩, trivial, trivial, trivial⟩ fun a w8 hA H hG => ?_
  refine hK7 _ _ ?_
  refine go_ret_ ?_
  refine ret_one 4 (.bool ((decide (A = C)) && (decide (B = D)))) hA ?_
  exact ans_b' rfl H.below

set_option maxRecDepth 100000 in
set_option maxHeartbeats 1000000 in
theorem rsame_any (va ea vb eb : Value) (A B C D : List Int) (w : World) (gA : Rd (· < w.heap.size) w va A) (gB : Rd (· < w.heap.size) w ea B) (gC : Rd (· < w.heap.size) w vb C) (gD : Rd (· < w.heap.size) w eb D) :
  Calls Try.prog 29 [.agg #[va, ea], .agg #[vb, eb]].toArray w (Ans (.bool (decide (A = C) && decide (B = D))) w) := by
  refine enter Try.f29 17 Try.func29 fun a hA => ?_
  replace hA := env_sub [(0, .agg #[va, ea]), (1, .agg #[vb, eb])] hA
  have H := Fr.start (org w)
  refine go_seq fun K1 hK1 => ?_
  refine region_list ?_
  refine list_at 0 ?_; refine q_box 0 2 29 (.tmp 0) (.agg #[va, ea]) [va, ea] [(1, .agg #[vb, eb])] hA H fun b2 a w3 H hA hG hge_b2 => ?_
  clear hge_b2
  refine list_at 1 ?_; refine q_box 1 3 29 (.tmp 1) (.agg #[vb, eb]) [vb, eb] [(2, .pointer (some ⟨b2, 0, none⟩))] hA H fun b4 a w5 H hA hG hge_b4 => ?_
  clear hge_b4
  refine q_list 2 1 [] [(2, .pointer (some ⟨b2, 0, none⟩)), (3, .pointer (some ⟨b4, 0, none⟩))] ((True) ∧ True) hA H ⟨trivial, trivial⟩ fun a w6 hA H hG => ?_
  refine list_end ?_
  refine hK1 _ _ ?_
  refine go_seq fun K7 hK7 => ?_
  refine q_reg [(6, va), (8, vb), (9, .bool (decide (A = C))), (12, ea), (14, eb), (15, .bool (decide (B = D)))] [(4, .bool ((decide (A = C)) && (decide (B = D))))] ((0 < Try.prog.cellsOf 27) ∧ (CellOk (On w6) b2 (0 + 0) (va)) ∧ (0 < Try.prog.cellsOf 27) ∧ (CellOk (On w6) b4 (0 + 0) (vb)) ∧ (Callable Try.prog 36 ∧ CallOk Try.prog (On w6) 36 [va, vb].toArray (.bool (decide (A = C)))) ∧ (True) ∧ ((decide (A = C)) = true → 0 < Try.prog.cellsOf 27) ∧ ((decide (A = C)) = true → CellOk (On w6) b2 (0 + 1) (ea)) ∧ ((decide (A = C)) = true → 0 < Try.prog.cellsOf 27) ∧ ((decide (A = C)) = true → CellOk (On w6) b4 (0 + 1) (eb)) ∧ ((decide (A = C)) = true → Callable Try.prog 36 ∧ CallOk Try.prog (On w6) 36 [ea, eb].toArray (.bool (decide (B = D)))) ∧ (True) ∧ (True) ∧ True) hA H ⟨by decide +kernel, by exact box_cell H 1 rfl 0, by decide +kernel, by exact box_cell H 0 rfl 0, ⟨callable_of, callOk_of fun w hw => by exact requal_any va vb A C w (((H.on hw).arg gA)) (((H.on hw).arg gC))⟩, trivial, fun _ => by decide +kernel, fun _ => by exact box_cell H 1 rfl 1, fun _ => by decide +kernel, fun _ => by exact box_cell H 0 rfl 1, fun _ => ⟨callable_of, callOk_of fun w hw => by exact requal_any ea eb B D w (((H.on hw).arg gB)) (((H.on hw).arg gD))⟩, trivial, trivial, trivial⟩ fun a w8 hA H hG => ?_
  refine hK7 _ _ ?_
  refine go_ret_ ?_
  refine ret_one 4 (.bool ((decide (A = C)) && (decide (B = D)))) hA ?_
  exact ans_b' rfl H.below

set_option maxRecDepth 100000 in
set_option maxHeartbeats 1000000 in
theorem all_any (v u : Value) (l m : List Int) (w : World) (hl : Rd (· < w.heap.size) w v l) (hm : Rd (· < w.heap.size) w u m) (hs : m.length ≤ 1000000000) :
  Calls Try.prog 79 [v, u].toArray w (Ans (.bool (decide (allP l m))) w) := by
  have hlen := rd_len hl
  refine enter Try.f79 18 Try.func79 fun a hA => ?_
  replace hA := env_sub [(0, v), (1, u)] hA
  have H := Fr.start (org w)
  refine go_seq fun K1 hK1 => ?_
  refine q_reg [] [(0, v), (1, u)] ((True) ∧ True) hA H ⟨trivial, trivial⟩ fun a w2 hA H hG => ?_
  refine hK1 _ _ ?_
  refine go_seq fun K3 hK3 => ?_
  refine go_seq fun K4 hK4 => ?_
  refine q_reg [(8, .int .i64 (l.length : Int))] [(1, u), (7, v), (8, .int .i64 (l.length : Int)), (9, .int .i64 0)] ((True) ∧ (LenOk v (l.length : Int)) ∧ (True) ∧ True) hA H ⟨trivial, by exact len_ok (H.arg hl), trivial, trivial⟩ fun a w5 hA H hG => ?_
  refine hK4 _ _ ?_
  refine go_block 0 ?_
  refine go_loop_ (Int) (fun x_ a W => (fun (i : Int) => EnvOk 18 a (keepEnv [(1, u), (7, v), (8, .int .i64 (l.length : Int)), (9, .int .i64 i)]) ∧ (∃ S, Fr (org w) W S []) ∧ 0 ≤ i ∧ ∀ j : Nat, (j : Int) < i → hasB m (l.getD j 0) = true) x_) (fun x_ => (fun (i : Int) => ((l.length : Int) - i).toNat) x_) (0) ?_ (fun i a w7 hI => ?_)
  · (try dsimp only); exact ⟨env_sub _ hA, ⟨_, H⟩, by omega, fun j hj => by omega⟩
  obtain ⟨hA, ⟨S, H⟩, h0, hok⟩ := hI
  try dsimp only at h0 hok
  refine go_seq fun K8 hK8 => ?_
  refine q_reg [] [(1, u), (7, v), (8, .int .i64 (l.length : Int)), (9, .int .i64 i), (10, .bool (decide (i < (l.length : Int))))] ((True) ∧ True) hA H ⟨trivial, trivial⟩ fun a w9 hA H hG => ?_
  refine hK8 _ _ ?_
  refine go_seq fun K10 hK10 => ?_
  refine go_cond hA (.tmp 10) (decide (i < (l.length : Int))) (fun hb11 => ?_) (fun hb11 => ?_)
  · have hhb11 := of_decide_eq_true hb11
    refine go_skip ?_
    refine hK10 _ _ ?_
    refine go_seq fun K12 hK12 => ?_
    refine go_block 1 ?_
    refine go_seq fun K13 hK13 => ?_
    refine q_reg [(12, .int .i64 (l.getD i.toNat 0))] [(1, u), (6, .int .i64 (l.getD i.toNat 0)), (7, v), (8, .int .i64 (l.length : Int)), (9, .int .i64 i)] (((Try.prog.info? 3).isSome = true ∧ IdxOk v i) ∧ (CellOk (On w9) (hdB v) (hdO v + i.toNat * 1) (.int .i64 (l.getD i.toNat 0))) ∧ (True) ∧ True) hA H ⟨⟨by kernel_rfl, by exact idx_ok (H.arg hl) (by omega) (by omega)⟩, by exact cell_flat (i := i) (H.arg hl) (by omega) (by omega) 0 0, trivial, trivial⟩ fun a w14 hA H hG => ?_
    refine hK13 _ _ ?_
    refine go_seq fun K15 hK15 => ?_
    refine q_reg [(15, .bool (hasB m (l.getD i.toNat 0)))] [(1, u), (7, v), (8, .int .i64 (l.length : Int)), (9, .int .i64 i), (16, .bool (!(hasB m (l.getD i.toNat 0))))] ((True) ∧ (True) ∧ (Callable Try.prog 39 ∧ CallOk Try.prog (On w14) 39 [u, .int .i64 (l.getD i.toNat 0)].toArray (.bool (hasB m (l.getD i.toNat 0)))) ∧ (True) ∧ True) hA H ⟨trivial, trivial, ⟨callable_of, callOk_of fun w hw => by exact has_any u m (l.getD i.toNat 0) w (((H.on hw).arg hm)) (by omega)⟩, trivial, trivial⟩ fun a w16 hA H hG => ?_
    refine hK15 _ _ ?_
    refine go_cond hA (.tmp 16) (!(hasB m (l.getD i.toNat 0))) (fun hb17 => ?_) (fun hb17 => ?_)
    · have hhb17 := (nT hb17)
      refine go_seq fun K18 hK18 => ?_
      refine q_reg [] [(4, .bool false)] ((True) ∧ True) hA H ⟨trivial, trivial⟩ fun a w19 hA H hG => ?_
      refine hK18 _ _ ?_
      refine go_ret_ ?_
      refine ret_one 4 (.bool false) hA ?_
      exact ans_b' ((decide_eq_false (fun q => by have z := q i.toNat (by omega); rw [z] at hhb17; cases hhb17)).symm) H.below
    · have hhb17 := (nF hb17)
      refine go_skip ?_
      refine hK12 _ _ ?_
      refine q_reg [] [(1, u), (7, v), (8, .int .i64 (l.length : Int)), (9, .int .i64 (i + 1))] ((InR .i64 (i + 1)) ∧ (True) ∧ True) hA H ⟨⟨by omega, by omega⟩, trivial, trivial⟩ fun a w20 hA H hG => ?_
      refine ⟨(i + 1), ⟨env_sub _ hA, ⟨_, H⟩, ?_⟩, ?_⟩
      · (try dsimp only); exact ⟨by omega, fun j hj => if e : (j : Int) = i then (by rw [show j = i.toNat by omega]; exact hhb17) else hok j (by omega)⟩
      · (try dsimp only); omega
  · have hhb11 := of_decide_eq_false hb11
    refine go_exit 0 ?_
    refine hK3 _ _ ?_
    refine go_seq fun K21 hK21 => ?_
    refine q_reg [] [(4, .bool true)] ((True) ∧ True) hA H ⟨trivial, trivial⟩ fun a w22 hA H hG => ?_
    refine hK21 _ _ ?_
    refine go_ret_ ?_
    refine ret_one 4 (.bool true) hA ?_
    exact ans_b' ((decide_eq_true (fun j hj => hok j (by omega))).symm) H.below

set_option maxRecDepth 100000 in
set_option maxHeartbeats 1000000 in
theorem within_any (va ea vb eb : Value) (A B C D : List Int) (w : World) (gA : Rd (· < w.heap.size) w va A) (gB : Rd (· < w.heap.size) w ea B) (gC : Rd (· < w.heap.size) w vb C) (gD : Rd (· < w.heap.size) w eb D) (hs1 : C.length ≤ 1000000000) (hs2 : D.length ≤ 1000000000) :
  Calls Try.prog 41 [.agg #[va, ea], .agg #[vb, eb]].toArray w (Ans (.bool (decide (allP A C) && decide (allP B D))) w) := by
  refine enter Try.f41 17 Try.func41 fun a hA => ?_
  replace hA := env_sub [(0, .agg #[va, ea]), (1, .agg #[vb, eb])] hA
  have H := Fr.start (org w)
  refine go_seq fun K1 hK1 => ?_
  refine region_list ?_
  refine list_at 0 ?_; refine q_box 0 2 29 (.tmp 0) (.agg #[va, ea]) [va, ea] [(1, .agg #[vb, eb])] hA H fun b2 a w3 H hA hG hge_b2 => ?_
  clear hge_b2
  refine list_at 1 ?_; refine q_box 1 3 29 (.tmp 1) (.agg #[vb, eb]) [vb, eb] [(2, .pointer (some ⟨b2, 0, none⟩))] hA H fun b4 a w5 H hA hG hge_b4 => ?_
  clear hge_b4
  refine q_list 2 1 [] [(2, .pointer (some ⟨b2, 0, none⟩)), (3, .pointer (some ⟨b4, 0, none⟩))] ((True) ∧ True) hA H ⟨trivial, trivial⟩ fun a w6 hA H hG => ?_
  refine list_end ?_
  refine hK1 _ _ ?_
  refine go_seq fun K7 hK7 => ?_
  refine q_reg [(6, va), (8, vb), (9, .bool (decide (allP A C))), (12, ea), (14, eb), (15, .bool (decide (allP B D)))] [(4, .bool ((decide (allP A C)) && (decide (allP B D))))] ((0 < Try.prog.cellsOf 27) ∧ (CellOk (On w6) b2 (0 + 0) (va)) ∧ (0 < Try.prog.cellsOf 27) ∧ (CellOk (On w6) b4 (0 + 0) (vb)) ∧ (Callable Try.prog 79 ∧ CallOk Try.prog (On w6) 79 [va, vb].toArray (.bool (decide (allP A C)))) ∧ (True) ∧ ((decide (allP A C)) = true → 0 < Try.prog.cellsOf 27) ∧ ((decide (allP A C)) = true → CellOk (On w6) b2 (0 + 1) (ea)) ∧ ((decide (allP A C)) = true → 0 < Try.prog.cellsOf 27) ∧ ((decide (allP A C)) = true → CellOk (On w6) b4 (0 + 1) (eb)) ∧ ((decide (allP A C)) = true → Callable Try.prog 79 ∧ CallOk Try.prog (On w6) 79 [ea, eb].toArray (.bool (decide (allP B D)))) ∧ (True) ∧ (True) ∧ True) hA H ⟨by decide +kernel, by exact box_cell H 1 rfl 0, by decide +kernel, by exact box_cell H 0 rfl 0, ⟨callable_of, callOk_of fun w hw => by exact all_any va vb A C w (((H.on hw).arg gA)) (((H.on hw).arg gC)) (by omega)⟩, trivial, fun _ => by decide +kernel, fun _ => by exact box_cell H 1 rfl 1, fun _ => by decide +kernel, fun _ => by exact box_cell H 0 rfl 1, fun hg0 => by replace hg0 := of_decide_eq_true hg0; exact ⟨callable_of, callOk_of fun w hw => by exact all_any ea eb B D w (((H.on hw).arg gB)) (((H.on hw).arg gD)) (by omega)⟩, trivial, trivial, trivial⟩ fun a w8 hA H hG => ?_
  refine hK7 _ _ ?_
  refine go_ret_ ?_
  refine ret_one 4 (.bool ((decide (allP A C)) && (decide (allP B D)))) hA ?_
  exact ans_b' rfl H.below

set_option maxRecDepth 100000 in
set_option maxHeartbeats 1000000 in
theorem in_any (v : Value) (l : List Int) (x : Int) (w : World) (hl : Rd (· < w.heap.size) w v l) :
  Calls Try.prog 24 [v, .int .i64 x].toArray w (Ans (.bool (decide (x ∈ l))) w) := by
  have hlen := rd_len hl
  refine enter Try.f24 18 Try.func24 fun a hA => ?_
  replace hA := env_sub [(0, v), (1, .int .i64 x)] hA
  have H := Fr.start (org w)
  refine go_seq fun K1 hK1 => ?_
  refine q_reg [] [(0, v), (1, .int .i64 x)] ((True) ∧ True) hA H ⟨trivial, trivial⟩ fun a w2 hA H hG => ?_
  refine hK1 _ _ ?_
  refine go_seq fun K3 hK3 => ?_
  refine go_seq fun K4 hK4 => ?_
  refine q_reg [] [(0, v), (1, .int .i64 x), (5, .int .i64 0)] ((True) ∧ True) hA H ⟨trivial, trivial⟩ fun a w5 hA H hG => ?_
  refine hK4 _ _ ?_
  refine go_block 0 ?_
  refine go_loop_ (Int) (fun x_ a W => (fun (i : Int) => EnvOk 18 a (keepEnv [(0, v), (1, .int .i64 x), (5, .int .i64 i)]) ∧ (∃ S, Fr (org w) W S []) ∧ 0 ≤ i ∧ ∀ j : Nat, (j : Int) < i → l.getD j 0 ≠ x) x_) (fun x_ => (fun (i : Int) => ((l.length : Int) - i).toNat) x_) (0) ?_ (fun i a w7 hI => ?_)
  · (try dsimp only); exact ⟨env_sub _ hA, ⟨_, H⟩, by omega, fun j hj => by omega⟩
  obtain ⟨hA, ⟨S, H⟩, h0, hok⟩ := hI
  try dsimp only at h0 hok
  refine go_seq fun K8 hK8 => ?_
  refine go_seq fun K9 hK9 => ?_
  refine q_reg [(8, .int .i64 (l.length : Int))] [(0, v), (1, .int .i64 x), (5, .int .i64 i), (9, .bool (decide (i < (l.length : Int))))] ((True) ∧ (True) ∧ (LenOk v (l.length : Int)) ∧ (True) ∧ True) hA H ⟨trivial, trivial, by exact len_ok (H.arg hl), trivial, trivial⟩ fun a w10 hA H hG => ?_
  refine hK9 _ _ ?_
  refine go_cond hA (.tmp 9) (decide (i < (l.length : Int))) (fun hb11 => ?_) (fun hb11 => ?_)
  · have hhb11 := of_decide_eq_true hb11
    refine go_skip ?_
    refine hK8 _ _ ?_
    refine go_seq fun K12 hK12 => ?_
    refine go_block 1 ?_
    refine go_seq fun K13 hK13 => ?_
    refine q_reg [(15, .int .i64 (l.getD i.toNat 0))] [(0, v), (1, .int .i64 x), (5, .int .i64 i), (17, .bool (decide ((l.getD i.toNat 0) = x)))] ((True) ∧ (True) ∧ ((Try.prog.info? 3).isSome = true ∧ IdxOk v i) ∧ (CellOk (On w10) (hdB v) (hdO v + i.toNat * 1) (.int .i64 (l.getD i.toNat 0))) ∧ (True) ∧ (True) ∧ True) hA H ⟨trivial, trivial, ⟨by kernel_rfl, by exact idx_ok (H.arg hl) (by omega) (by omega)⟩, by exact cell_flat (i := i) (H.arg hl) (by omega) (by omega) 0 0, trivial, trivial, trivial⟩ fun a w14 hA H hG => ?_
    refine hK13 _ _ ?_
    refine go_cond hA (.tmp 17) (decide ((l.getD i.toNat 0) = x)) (fun hb15 => ?_) (fun hb15 => ?_)
    · have hhb15 := of_decide_eq_true hb15
      refine go_seq fun K16 hK16 => ?_
      refine q_reg [] [(4, .bool true)] ((True) ∧ True) hA H ⟨trivial, trivial⟩ fun a w17 hA H hG => ?_
      refine hK16 _ _ ?_
      refine go_ret_ ?_
      refine ret_one 4 (.bool true) hA ?_
      exact ans_b' ((decide_eq_true (mem_getD.2 ⟨i.toNat, by omega, hhb15⟩)).symm) H.below
    · have hhb15 := of_decide_eq_false hb15
      refine go_skip ?_
      refine hK12 _ _ ?_
      refine q_reg [] [(0, v), (1, .int .i64 x), (5, .int .i64 (i + 1))] ((True) ∧ (InR .i64 (i + 1)) ∧ (True) ∧ True) hA H ⟨trivial, ⟨by omega, by omega⟩, trivial, trivial⟩ fun a w18 hA H hG => ?_
      refine ⟨(i + 1), ⟨env_sub _ hA, ⟨_, H⟩, ?_⟩, ?_⟩
      · (try dsimp only); exact ⟨by omega, fun j hj => if e : (j : Int) = i then (by rw [show j = i.toNat by omega]; exact hhb15) else hok j (by omega)⟩
      · (try dsimp only); omega
  · have hhb11 := of_decide_eq_false hb11
    refine go_exit 0 ?_
    refine hK3 _ _ ?_
    refine go_seq fun K19 hK19 => ?_
    refine q_reg [] [(4, .bool false)] ((True) ∧ True) hA H ⟨trivial, trivial⟩ fun a w20 hA H hG => ?_
    refine hK19 _ _ ?_
    refine go_ret_ ?_
    refine ret_one 4 (.bool false) hA ?_
    exact ans_b' ((decide_eq_false (fun q => by obtain ⟨j, hj, e⟩ := mem_getD.1 q; exact hok j (by omega) e)).symm) H.below

set_option maxRecDepth 100000 in
set_option maxHeartbeats 1000000 in
theorem rises_any (v : Value) (l : List Int) (n : Int) (w : World) (hl : Rd (· < w.heap.size) w v l) :
  Calls Try.prog 25 [v, .int .i64 n].toArray w (Ans (.bool (decide (risesP l n))) w) := by
  have hlen := rd_len hl
  refine enter Try.f25 41 Try.func25 fun a hA => ?_
  replace hA := env_sub [(0, v), (1, .int .i64 n)] hA
  have H := Fr.start (org w)
  refine go_seq fun K1 hK1 => ?_
  refine q_reg [] [(0, v), (1, .int .i64 n)] ((True) ∧ True) hA H ⟨trivial, trivial⟩ fun a w2 hA H hG => ?_
  refine hK1 _ _ ?_
  refine go_seq fun K3 hK3 => ?_
  refine go_seq fun K4 hK4 => ?_
  refine q_reg [] [(0, v), (1, .int .i64 n), (5, .int .i64 0)] ((True) ∧ True) hA H ⟨trivial, trivial⟩ fun a w5 hA H hG => ?_
  refine hK4 _ _ ?_
  refine go_block 0 ?_
  refine go_loop_ (Int) (fun x_ a W => (fun (i : Int) => EnvOk 41 a (keepEnv [(0, v), (1, .int .i64 n), (5, .int .i64 i)]) ∧ (∃ S, Fr (org w) W S []) ∧ 0 ≤ i ∧ ∀ j : Nat, (j : Int) < i → 0 ≤ l.getD j 0 ∧ l.getD j 0 < n ∧ (0 < j → l.getD (j - 1) 0 < l.getD j 0)) x_) (fun x_ => (fun (i : Int) => ((l.length : Int) - i).toNat) x_) (0) ?_ (fun i a w7 hI => ?_)
  · (try dsimp only); exact ⟨env_sub _ hA, ⟨_, H⟩, by omega, fun j hj => by omega⟩
  obtain ⟨hA, ⟨S, H⟩, h0, hok⟩ := hI
  try dsimp only at h0 hok
  refine go_seq fun K8 hK8 => ?_
  refine go_seq fun K9 hK9 => ?_
  refine q_reg [(8, .int .i64 (l.length : Int))] [(0, v), (1, .int .i64 n), (5, .int .i64 i), (9, .bool (decide (i < (l.length : Int))))] ((True) ∧ (True) ∧ (LenOk v (l.length : Int)) ∧ (True) ∧ True) hA H ⟨trivial, trivial, by exact len_ok (H.arg hl), trivial, trivial⟩ fun a w10 hA H hG => ?_
  refine hK9 _ _ ?_
  refine go_cond hA (.tmp 9) (decide (i < (l.length : Int))) (fun hb11 => ?_) (fun hb11 => ?_)
  · have hhb11 := of_decide_eq_true hb11
    refine go_skip ?_
    refine hK8 _ _ ?_
    refine go_seq fun K12 hK12 => ?_
    refine go_block 1 ?_
    refine go_seq fun K13 hK13 => ?_
    refine q_draw [(15, .int .i64 (l.getD i.toNat 0)), (21, .int .i64 (l.getD i.toNat 0)), (32, .int .i64 (l.getD i.toNat 0)), (37, .int .i64 (l.getD (i - 1).toNat 0))] [(0, v), (1, .int .i64 n), (5, .int .i64 i), (40, .bool (((decide ((l.getD i.toNat 0) < 0)) || (decide (n ≤ (l.getD i.toNat 0)))) || ((decide ((0 : Int) < i)) && (decide ((l.getD i.toNat 0) ≤ (l.getD (i - 1).toNat 0))))))] ((True) ∧ (True) ∧ ((Try.prog.info? 3).isSome = true ∧ IdxOk v i) ∧ (CellOk (On w10) (hdB v) (hdO v + i.toNat * 1) (.int .i64 (l.getD i.toNat 0))) ∧ (True) ∧ (True) ∧ ((decide ((l.getD i.toNat 0) < 0)) = false → True) ∧ ((decide ((l.getD i.toNat 0) < 0)) = false → True) ∧ ((decide ((l.getD i.toNat 0) < 0)) = false → (Try.prog.info? 3).isSome = true ∧ IdxOk v i) ∧ ((decide ((l.getD i.toNat 0) < 0)) = false → CellOk (On w10) (hdB v) (hdO v + i.toNat * 1) (.int .i64 (l.getD i.toNat 0))) ∧ ((decide ((l.getD i.toNat 0) < 0)) = false → True) ∧ ((decide ((l.getD i.toNat 0) < 0)) = false → True) ∧ (True) ∧ (True) ∧ (((decide ((l.getD i.toNat 0) < 0)) || (decide (n ≤ (l.getD i.toNat 0)))) = false → True) ∧ (((decide ((l.getD i.toNat 0) < 0)) || (decide (n ≤ (l.getD i.toNat 0)))) = false → True) ∧ (((decide ((l.getD i.toNat 0) < 0)) || (decide (n ≤ (l.getD i.toNat 0)))) = false → True) ∧ (((decide ((l.getD i.toNat 0) < 0)) || (decide (n ≤ (l.getD i.toNat 0)))) = false → (decide ((0 : Int) < i)) = true → True) ∧ (((decide ((l.getD i.toNat 0) < 0)) || (decide (n ≤ (l.getD i.toNat 0)))) = false → (decide ((0 : Int) < i)) = true → True) ∧ (((decide ((l.getD i.toNat 0) < 0)) || (decide (n ≤ (l.getD i.toNat 0)))) = false → (decide ((0 : Int) < i)) = true → (Try.prog.info? 3).isSome = true ∧ IdxOk v i) ∧ (((decide ((l.getD i.toNat 0) < 0)) || (decide (n ≤ (l.getD i.toNat 0)))) = false → (decide ((0 : Int) < i)) = true → CellOk (On w10) (hdB v) (hdO v + i.toNat * 1) (.int .i64 (l.getD i.toNat 0))) ∧ (((decide ((l.getD i.toNat 0) < 0)) || (decide (n ≤ (l.getD i.toNat 0)))) = false → (decide ((0 : Int) < i)) = true → True) ∧ (((decide ((l.getD i.toNat 0) < 0)) || (decide (n ≤ (l.getD i.toNat 0)))) = false → (decide ((0 : Int) < i)) = true → True) ∧ (((decide ((l.getD i.toNat 0) < 0)) || (decide (n ≤ (l.getD i.toNat 0)))) = false → (decide ((0 : Int) < i)) = true → InR .i64 (i - 1)) ∧ (((decide ((l.getD i.toNat 0) < 0)) || (decide (n ≤ (l.getD i.toNat 0)))) = false → (decide ((0 : Int) < i)) = true → (Try.prog.info? 3).isSome = true ∧ IdxOk v (i - 1)) ∧ (((decide ((l.getD i.toNat 0) < 0)) || (decide (n ≤ (l.getD i.toNat 0)))) = false → (decide ((0 : Int) < i)) = true → CellOk (On w10) (hdB v) (hdO v + (i - 1).toNat * 1) (.int .i64 (l.getD (i - 1).toNat 0))) ∧ (((decide ((l.getD i.toNat 0) < 0)) || (decide (n ≤ (l.getD i.toNat 0)))) = false → (decide ((0 : Int) < i)) = true → True) ∧ (((decide ((l.getD i.toNat 0) < 0)) || (decide (n ≤ (l.getD i.toNat 0)))) = false → True) ∧ (True) ∧ True) hA H ⟨trivial, trivial, ⟨by kernel_rfl, by exact idx_ok (H.arg hl) (by omega) (by omega)⟩, by exact cell_flat (i := i) (H.arg hl) (by omega) (by omega) 0 0, trivial, trivial, fun _ => trivial, fun _ => trivial, fun hg0 => by replace hg0 := of_decide_eq_false hg0; exact ⟨by kernel_rfl, by exact idx_ok (H.arg hl) (by omega) (by omega)⟩, fun hg0 => by replace hg0 := of_decide_eq_false hg0; exact by exact cell_flat (i := i) (H.arg hl) (by omega) (by omega) 0 0, fun _ => trivial, fun _ => trivial, trivial, trivial, fun _ => trivial, fun _ => trivial, fun _ => trivial, fun _ _ => trivial, fun _ _ => trivial, fun hg0 hg1 => by replace hg0 := (⟨of_decide_eq_false ((oF hg0).1), of_decide_eq_false ((oF hg0).2)⟩ : _ ∧ _); replace hg1 := of_decide_eq_true hg1; exact ⟨by kernel_rfl, by exact idx_ok (H.arg hl) (by omega) (by omega)⟩, fun hg0 hg1 => by replace hg0 := (⟨of_decide_eq_false ((oF hg0).1), of_decide_eq_false ((oF hg0).2)⟩ : _ ∧ _); replace hg1 := of_decide_eq_true hg1; exact by exact cell_flat (i := i) (H.arg hl) (by omega) (by omega) 0 0, fun _ _ => trivial, fun _ _ => trivial, fun hg0 hg1 => by replace hg0 := (⟨of_decide_eq_false ((oF hg0).1), of_decide_eq_false ((oF hg0).2)⟩ : _ ∧ _); replace hg1 := of_decide_eq_true hg1; exact ⟨by omega, by omega⟩, fun hg0 hg1 => by replace hg0 := (⟨of_decide_eq_false ((oF hg0).1), of_decide_eq_false ((oF hg0).2)⟩ : _ ∧ _); replace hg1 := of_decide_eq_true hg1; exact ⟨by kernel_rfl, by exact idx_ok (H.arg hl) (by omega) (by omega)⟩, fun hg0 hg1 => by replace hg0 := (⟨of_decide_eq_false ((oF hg0).1), of_decide_eq_false ((oF hg0).2)⟩ : _ ∧ _); replace hg1 := of_decide_eq_true hg1; exact by exact cell_flat (i := i - 1) (H.arg hl) (by omega) (by omega) 0 0, fun _ _ => trivial, fun _ => trivial, trivial, trivial⟩ fun a w14 hA H hG => ?_
    refine hK13 _ _ ?_
    refine go_cond hA (.tmp 40) (((decide ((l.getD i.toNat 0) < 0)) || (decide (n ≤ (l.getD i.toNat 0)))) || ((decide ((0 : Int) < i)) && (decide ((l.getD i.toNat 0) ≤ (l.getD (i - 1).toNat 0))))) (fun hb15 => ?_) (fun hb15 => ?_)
    · have hhb15 := (oT hb15).imp (fun h => (oT h).imp (fun h => of_decide_eq_true h) (fun h => of_decide_eq_true h)) (fun h => (⟨of_decide_eq_true ((aT h).1), of_decide_eq_true ((aT h).2)⟩ : _ ∧ _))
      refine go_seq fun K16 hK16 => ?_
      refine q_reg [] [(4, .bool false)] ((True) ∧ True) hA H ⟨trivial, trivial⟩ fun a w17 hA H hG => ?_
      refine hK16 _ _ ?_
      refine go_ret_ ?_
      refine ret_one 4 (.bool false) hA ?_
      exact ans_b' ((decide_eq_false (fun q => by have := q i.toNat (by omega); have z := hhb15; rw [show (i - 1).toNat = i.toNat - 1 by omega] at z; omega)).symm) H.below
    · have hhb15 := (⟨(⟨of_decide_eq_false ((oF ((oF hb15).1)).1), of_decide_eq_false ((oF ((oF hb15).1)).2)⟩ : _ ∧ _), (aF ((oF hb15).2)).imp (fun h => of_decide_eq_false h) (fun h => of_decide_eq_false h)⟩ : _ ∧ _)
      refine go_skip ?_
      refine hK12 _ _ ?_
      refine q_reg [] [(0, v), (1, .int .i64 n), (5, .int .i64 (i + 1))] ((True) ∧ (InR .i64 (i + 1)) ∧ (True) ∧ True) hA H ⟨trivial, ⟨by omega, by omega⟩, trivial, trivial⟩ fun a w18 hA H hG => ?_
      refine ⟨(i + 1), ⟨env_sub _ hA, ⟨_, H⟩, ?_⟩, ?_⟩
      · (try dsimp only); exact ⟨by omega, fun j hj => if e : (j : Int) = i then (by have q := hhb15; rw [show j = i.toNat by omega]; rw [show (i - 1).toNat = i.toNat - 1 by omega] at q; omega) else hok j (by omega)⟩
      · (try dsimp only); omega
  · have hhb11 := of_decide_eq_false hb11
    refine go_exit 0 ?_
    refine hK3 _ _ ?_
    refine go_seq fun K19 hK19 => ?_
    refine q_reg [] [(4, .bool true)] ((True) ∧ True) hA H ⟨trivial, trivial⟩ fun a w20 hA H hG => ?_
    refine hK19 _ _ ?_
    refine go_ret_ ?_
    refine ret_one 4 (.bool true) hA ?_
    exact ans_b' ((decide_eq_true (fun j hj => hok j (by omega))).symm) H.below

set_option maxRecDepth 100000 in
set_option maxHeartbeats 1000000 in
theorem rright_any (n : Int) (ve : Value) (E : List (Int × Int)) (w : World) (hn : -9223372036854775808 ≤ n ∧ n ≤ 9223372036854775807) (hE : Rd (· < w.heap.size) w ve E) :
  Calls Try.prog 27 [.agg #[.int .i64 n, ve]].toArray w (Ans (.int .i64 (rightE n E)) w) := by
  have hlen := rd_len hE
  refine enter Try.f27 70 Try.func27 fun a hA => ?_
  replace hA := env_sub [(0, .agg #[.int .i64 n, ve])] hA
  have H := Fr.start (org w)
  refine go_seq fun K1 hK1 => ?_
  refine region_list ?_
  refine list_at 0 ?_; refine q_box 0 1 24 (.tmp 0) (.agg #[.int .i64 n, ve]) [.int .i64 n, ve] [] hA H fun b2 a w3 H hA hG hge_b2 => ?_
  clear hge_b2
  refine q_list 1 1 [] [(1, .pointer (some ⟨b2, 0, none⟩))] ((True) ∧ True) hA H ⟨trivial, trivial⟩ fun a w4 hA H hG => ?_
  refine list_end ?_
  refine hK1 _ _ ?_
  refine go_seq fun K5 hK5 => ?_
  refine go_seq fun K6 hK6 => ?_
  refine q_reg [(5, .int .i64 n)] [(1, .pointer (some ⟨b2, 0, none⟩)), (6, .bool (decide (n < 0)))] ((0 < Try.prog.cellsOf 3) ∧ (CellOk (On w4) b2 (0 + 0) (.int .i64 n)) ∧ (True) ∧ True) hA H ⟨by decide +kernel, by exact box_cell H 0 rfl 0, trivial, trivial⟩ fun a w7 hA H hG => ?_
  refine hK6 _ _ ?_
  refine go_cond hA (.tmp 6) (decide (n < 0)) (fun hb8 => ?_) (fun hb8 => ?_)
  · have hhb8 := of_decide_eq_true hb8
    refine go_seq fun K9 hK9 => ?_
    refine q_reg [] [(2, .int .i64 3)] ((True) ∧ True) hA H ⟨trivial, trivial⟩ fun a w10 hA H hG => ?_
    refine hK9 _ _ ?_
    refine go_ret_ ?_
    refine ret_one 2 (.int .i64 3) hA ?_
    exact ans_i' (by unfold rightE; first | rw [if_pos (by omega)] | rw [if_neg (by omega), if_pos (by omega)]) H.below
  · have hhb8 := of_decide_eq_false hb8
    refine go_skip ?_
    refine hK5 _ _ ?_
    refine go_seq fun K11 hK11 => ?_
    refine go_seq fun K12 hK12 => ?_
    refine q_reg [(8, .int .i64 n), (12, ve), (13, .int .i64 (E.length : Int)), (18, .int .i64 n), (20, ve), (21, .int .i64 (E.length : Int))] [(1, .pointer (some ⟨b2, 0, none⟩)), (24, .bool (((decide ((1024 : Int) < n)) || (decide ((1024 : Int) < (E.length : Int)))) || (decide ((1024 : Int) < n + (E.length : Int)))))] ((0 < Try.prog.cellsOf 3) ∧ (CellOk (On w7) b2 (0 + 0) (.int .i64 n)) ∧ (True) ∧ (True) ∧ ((decide ((1024 : Int) < n)) = false → 0 < Try.prog.cellsOf 22) ∧ ((decide ((1024 : Int) < n)) = false → CellOk (On w7) b2 (0 + 1) (ve)) ∧ ((decide ((1024 : Int) < n)) = false → LenOk ve (E.length : Int)) ∧ ((decide ((1024 : Int) < n)) = false → True) ∧ (True) ∧ (True) ∧ (((decide ((1024 : Int) < n)) || (decide ((1024 : Int) < (E.length : Int)))) = false → 0 < Try.prog.cellsOf 3) ∧ (((decide ((1024 : Int) < n)) || (decide ((1024 : Int) < (E.length : Int)))) = false → CellOk (On w7) b2 (0 + 0) (.int .i64 n)) ∧ (((decide ((1024 : Int) < n)) || (decide ((1024 : Int) < (E.length : Int)))) = false → 0 < Try.prog.cellsOf 22) ∧ (((decide ((1024 : Int) < n)) || (decide ((1024 : Int) < (E.length : Int)))) = false → CellOk (On w7) b2 (0 + 1) (ve)) ∧ (((decide ((1024 : Int) < n)) || (decide ((1024 : Int) < (E.length : Int)))) = false → LenOk ve (E.length : Int)) ∧ (((decide ((1024 : Int) < n)) || (decide ((1024 : Int) < (E.length : Int)))) = false → InR .i64 (n + (E.length : Int))) ∧ (((decide ((1024 : Int) < n)) || (decide ((1024 : Int) < (E.length : Int)))) = false → True) ∧ (True) ∧ True) hA H ⟨by decide +kernel, by exact box_cell H 0 rfl 0, trivial, trivial, fun _ => by decide +kernel, fun _ => by exact box_cell H 0 rfl 1, fun _ => by exact len_ok (H.arg hE), fun _ => trivial, trivial, trivial, fun _ => by decide +kernel, fun _ => by exact box_cell H 0 rfl 0, fun _ => by decide +kernel, fun _ => by exact box_cell H 0 rfl 1, fun _ => by exact len_ok (H.arg hE), fun hg0 => by replace hg0 := (⟨of_decide_eq_false ((oF hg0).1), of_decide_eq_false ((oF hg0).2)⟩ : _ ∧ _); exact ⟨by omega, by omega⟩, fun _ => trivial, trivial, trivial⟩ fun a w13 hA H hG => ?_
    refine hK12 _ _ ?_
    refine go_cond hA (.tmp 24) (((decide ((1024 : Int) < n)) || (decide ((1024 : Int) < (E.length : Int)))) || (decide ((1024 : Int) < n + (E.length : Int)))) (fun hb14 => ?_) (fun hb14 => ?_)
    · have hhb14 := (oT hb14).imp (fun h => (oT h).imp (fun h => of_decide_eq_true h) (fun h => of_decide_eq_true h)) (fun h => of_decide_eq_true h)
      refine go_seq fun K15 hK15 => ?_
      refine q_reg [] [(2, .int .i64 2)] ((True) ∧ True) hA H ⟨trivial, trivial⟩ fun a w16 hA H hG => ?_
      refine hK15 _ _ ?_
      refine go_ret_ ?_
      refine ret_one 2 (.int .i64 2) hA ?_
      exact ans_i' (by unfold rightE; first | rw [if_pos (by omega)] | rw [if_neg (by omega), if_pos (by omega)]) H.below
    · have hhb14 := (⟨(⟨of_decide_eq_false ((oF ((oF hb14).1)).1), of_decide_eq_false ((oF ((oF hb14).1)).2)⟩ : _ ∧ _), of_decide_eq_false ((oF hb14).2)⟩ : _ ∧ _)
      refine go_skip ?_
      refine hK11 _ _ ?_
      refine go_seq fun K17 hK17 => ?_
      refine go_seq fun K18 hK18 => ?_
      refine q_reg [] [(1, .pointer (some ⟨b2, 0, none⟩)), (3, .int .i64 0)] ((True) ∧ True) hA H ⟨trivial, trivial⟩ fun a w19 hA H hG => ?_
      refine hK18 _ _ ?_
      refine go_block 0 ?_
      refine go_loop_ (Int) (fun x_ a W => (fun (i : Int) => EnvOk 70 a (keepEnv [(1, .pointer (some ⟨b2, 0, none⟩)), (3, .int .i64 i)]) ∧ (∃ S, Fr (org w) W S [.box b2 24 [.int .i64 n, ve]]) ∧ 0 ≤ i ∧ ∀ j : Nat, (j : Int) < i → okE n (E.getD j (0, 0))) x_) (fun x_ => (fun (i : Int) => ((E.length : Int) - i).toNat) x_) (0) ?_ (fun i a w21 hI => ?_)
      · (try dsimp only); exact ⟨env_sub _ hA, ⟨_, H⟩, by omega, fun j hj => by omega⟩
      obtain ⟨hA, ⟨S, H⟩, h0, hok⟩ := hI
      try dsimp only at h0 hok
      refine go_seq fun K22 hK22 => ?_
      refine go_seq fun K23 hK23 => ?_
      refine q_reg [(27, ve), (28, .int .i64 (E.length : Int))] [(1, .pointer (some ⟨b2, 0, none⟩)), (3, .int .i64 i), (29, .bool (decide (i < (E.length : Int))))] ((True) ∧ (0 < Try.prog.cellsOf 22) ∧ (CellOk (On w21) b2 (0 + 1) (ve)) ∧ (LenOk ve (E.length : Int)) ∧ (True) ∧ True) hA H ⟨trivial, by decide +kernel, by exact box_cell H 0 rfl 1, by exact len_ok (H.arg hE), trivial, trivial⟩ fun a w24 hA H hG => ?_
      refine hK23 _ _ ?_
      refine go_cond hA (.tmp 29) (decide (i < (E.length : Int))) (fun hb25 => ?_) (fun hb25 => ?_)
      · have hhb25 := of_decide_eq_true hb25
        refine go_skip ?_
        refine hK22 _ _ ?_
        refine go_seq fun K26 hK26 => ?_
        refine go_block 1 ?_
        refine go_seq fun K27 hK27 => ?_
        refine q_draw [(33, ve), (37, .int .i64 ((E.getD i.toNat (0, 0)).1)), (41, ve), (45, .int .i64 ((E.getD i.toNat (0, 0)).1)), (47, .int .i64 n), (52, ve), (56, .int .i64 ((E.getD i.toNat (0, 0)).2)), (61, ve), (65, .int .i64 ((E.getD i.toNat (0, 0)).2)), (67, .int .i64 n)] [(1, .pointer (some ⟨b2, 0, none⟩)), (3, .int .i64 i), (69, .bool ((((decide ((E.getD i.toNat (0, 0)).1 < 0)) || (decide (n ≤ (E.getD i.toNat (0, 0)).1))) || (decide ((E.getD i.toNat (0, 0)).2 < 0))) || (decide (n ≤ (E.getD i.toNat (0, 0)).2))))] ((0 < Try.prog.cellsOf 22) ∧ (CellOk (On w24) b2 (0 + 1) (ve)) ∧ (True) ∧ ((Try.prog.info? 99).isSome = true ∧ IdxOk ve i) ∧ (0 < Try.prog.cellsOf 3) ∧ (CellOk (On w24) (hdB ve) (hdO ve + i.toNat * 2 + 0) (.int .i64 ((E.getD i.toNat (0, 0)).1))) ∧ (True) ∧ (True) ∧ ((decide ((E.getD i.toNat (0, 0)).1 < 0)) = false → 0 < Try.prog.cellsOf 22) ∧ ((decide ((E.getD i.toNat (0, 0)).1 < 0)) = false → CellOk (On w24) b2 (0 + 1) (ve)) ∧ ((decide ((E.getD i.toNat (0, 0)).1 < 0)) = false → True) ∧ ((decide ((E.getD i.toNat (0, 0)).1 < 0)) = false → (Try.prog.info? 99).isSome = true ∧ IdxOk ve i) ∧ ((decide ((E.getD i.toNat (0, 0)).1 < 0)) = false → 0 < Try.prog.cellsOf 3) ∧ ((decide ((E.getD i.toNat (0, 0)).1 < 0)) = false → CellOk (On w24) (hdB ve) (hdO ve + i.toNat * 2 + 0) (.int .i64 ((E.getD i.toNat (0, 0)).1))) ∧ ((decide ((E.getD i.toNat (0, 0)).1 < 0)) = false → 0 < Try.prog.cellsOf 3) ∧ ((decide ((E.getD i.toNat (0, 0)).1 < 0)) = false → CellOk (On w24) b2 (0 + 0) (.int .i64 n)) ∧ ((decide ((E.getD i.toNat (0, 0)).1 < 0)) = false → True) ∧ (True) ∧ (True) ∧ (((decide ((E.getD i.toNat (0, 0)).1 < 0)) || (decide (n ≤ (E.getD i.toNat (0, 0)).1))) = false → 0 < Try.prog.cellsOf 22) ∧ (((decide ((E.getD i.toNat (0, 0)).1 < 0)) || (decide (n ≤ (E.getD i.toNat (0, 0)).1))) = false → CellOk (On w24) b2 (0 + 1) (ve)) ∧ (((decide ((E.getD i.toNat (0, 0)).1 < 0)) || (decide (n ≤ (E.getD i.toNat (0, 0)).1))) = false → True) ∧ (((decide ((E.getD i.toNat (0, 0)).1 < 0)) || (decide (n ≤ (E.getD i.toNat (0, 0)).1))) = false → (Try.prog.info? 99).isSome = true ∧ IdxOk ve i) ∧ (((decide ((E.getD i.toNat (0, 0)).1 < 0)) || (decide (n ≤ (E.getD i.toNat (0, 0)).1))) = false → 0 < Try.prog.cellsOf 3) ∧ (((decide ((E.getD i.toNat (0, 0)).1 < 0)) || (decide (n ≤ (E.getD i.toNat (0, 0)).1))) = false → CellOk (On w24) (hdB ve) (hdO ve + i.toNat * 2 + 1) (.int .i64 ((E.getD i.toNat (0, 0)).2))) ∧ (((decide ((E.getD i.toNat (0, 0)).1 < 0)) || (decide (n ≤ (E.getD i.toNat (0, 0)).1))) = false → True) ∧ (True) ∧ (True) ∧ ((((decide ((E.getD i.toNat (0, 0)).1 < 0)) || (decide (n ≤ (E.getD i.toNat (0, 0)).1))) || (decide ((E.getD i.toNat (0, 0)).2 < 0))) = false → 0 < Try.prog.cellsOf 22) ∧ ((((decide ((E.getD i.toNat (0, 0)).1 < 0)) || (decide (n ≤ (E.getD i.toNat (0, 0)).1))) || (decide ((E.getD i.toNat (0, 0)).2 < 0))) = false → CellOk (On w24) b2 (0 + 1) (ve)) ∧ ((((decide ((E.getD i.toNat (0, 0)).1 < 0)) || (decide (n ≤ (E.getD i.toNat (0, 0)).1))) || (decide ((E.getD i.toNat (0, 0)).2 < 0))) = false → True) ∧ ((((decide ((E.getD i.toNat (0, 0)).1 < 0)) || (decide (n ≤ (E.getD i.toNat (0, 0)).1))) || (decide ((E.getD i.toNat (0, 0)).2 < 0))) = false → (Try.prog.info? 99).isSome = true ∧ IdxOk ve i) ∧ ((((decide ((E.getD i.toNat (0, 0)).1 < 0)) || (decide (n ≤ (E.getD i.toNat (0, 0)).1))) || (decide ((E.getD i.toNat (0, 0)).2 < 0))) = false → 0 < Try.prog.cellsOf 3) ∧ ((((decide ((E.getD i.toNat (0, 0)).1 < 0)) || (decide (n ≤ (E.getD i.toNat (0, 0)).1))) || (decide ((E.getD i.toNat (0, 0)).2 < 0))) = false → CellOk (On w24) (hdB ve) (hdO ve + i.toNat * 2 + 1) (.int .i64 ((E.getD i.toNat (0, 0)).2))) ∧ ((((decide ((E.getD i.toNat (0, 0)).1 < 0)) || (decide (n ≤ (E.getD i.toNat (0, 0)).1))) || (decide ((E.getD i.toNat (0, 0)).2 < 0))) = false → 0 < Try.prog.cellsOf 3) ∧ ((((decide ((E.getD i.toNat (0, 0)).1 < 0)) || (decide (n ≤ (E.getD i.toNat (0, 0)).1))) || (decide ((E.getD i.toNat (0, 0)).2 < 0))) = false → CellOk (On w24) b2 (0 + 0) (.int .i64 n)) ∧ ((((decide ((E.getD i.toNat (0, 0)).1 < 0)) || (decide (n ≤ (E.getD i.toNat (0, 0)).1))) || (decide ((E.getD i.toNat (0, 0)).2 < 0))) = false → True) ∧ (True) ∧ True) hA H ⟨by decide +kernel, by exact box_cell H 0 rfl 1, trivial, ⟨by kernel_rfl, by exact idx_ok (H.arg hE) (by omega) (by omega)⟩, by decide +kernel, by exact cell_flat (i := i) (H.arg hE) (by omega) (by omega) (0, 0) 0, trivial, trivial, fun _ => by decide +kernel, fun _ => by exact box_cell H 0 rfl 1, fun _ => trivial, fun hg0 => by replace hg0 := of_decide_eq_false hg0; exact ⟨by kernel_rfl, by exact idx_ok (H.arg hE) (by omega) (by omega)⟩, fun _ => by decide +kernel, fun hg0 => by replace hg0 := of_decide_eq_false hg0; exact by exact cell_flat (i := i) (H.arg hE) (by omega) (by omega) (0, 0) 0, fun _ => by decide +kernel, fun _ => by exact box_cell H 0 rfl 0, fun _ => trivial, trivial, trivial, fun _ => by decide +kernel, fun _ => by exact box_cell H 0 rfl 1, fun _ => trivial, fun hg0 => by replace hg0 := (⟨of_decide_eq_false ((oF hg0).1), of_decide_eq_false ((oF hg0).2)⟩ : _ ∧ _); exact ⟨by kernel_rfl, by exact idx_ok (H.arg hE) (by omega) (by omega)⟩, fun _ => by decide +kernel, fun hg0 => by replace hg0 := (⟨of_decide_eq_false ((oF hg0).1), of_decide_eq_false ((oF hg0).2)⟩ : _ ∧ _); exact by exact cell_flat (i := i) (H.arg hE) (by omega) (by omega) (0, 0) 1, fun _ => trivial, trivial, trivial, fun _ => by decide +kernel, fun _ => by exact box_cell H 0 rfl 1, fun _ => trivial, fun hg0 => by replace hg0 := (⟨(⟨of_decide_eq_false ((oF ((oF hg0).1)).1), of_decide_eq_false ((oF ((oF hg0).1)).2)⟩ : _ ∧ _), of_decide_eq_false ((oF hg0).2)⟩ : _ ∧ _); exact ⟨by kernel_rfl, by exact idx_ok (H.arg hE) (by omega) (by omega)⟩, fun _ => by decide +kernel, fun hg0 => by replace hg0 := (⟨(⟨of_decide_eq_false ((oF ((oF hg0).1)).1), of_decide_eq_false ((oF ((oF hg0).1)).2)⟩ : _ ∧ _), of_decide_eq_false ((oF hg0).2)⟩ : _ ∧ _); exact by exact cell_flat (i := i) (H.arg hE) (by omega) (by omega) (0, 0) 1, fun _ => by decide +kernel, fun _ => by exact box_cell H 0 rfl 0, fun _ => trivial, trivial, trivial⟩ fun a w28 hA H hG => ?_
        refine hK27 _ _ ?_
        refine go_cond hA (.tmp 69) ((((decide ((E.getD i.toNat (0, 0)).1 < 0)) || (decide (n ≤ (E.getD i.toNat (0, 0)).1))) || (decide ((E.getD i.toNat (0, 0)).2 < 0))) || (decide (n ≤ (E.getD i.toNat (0, 0)).2))) (fun hb29 => ?_) (fun hb29 => ?_)
        · have hhb29 := (oT hb29).imp (fun h => (oT h).imp (fun h => (oT h).imp (fun h => of_decide_eq_true h) (fun h => of_decide_eq_true h)) (fun h => of_decide_eq_true h)) (fun h => of_decide_eq_true h)
          refine go_seq fun K30 hK30 => ?_
          refine q_reg [] [(2, .int .i64 3)] ((True) ∧ True) hA H ⟨trivial, trivial⟩ fun a w31 hA H hG => ?_
          refine hK30 _ _ ?_
          refine go_ret_ ?_
          refine ret_one 2 (.int .i64 3) hA ?_
          exact ans_i' ((rightE_bad (by omega) (by omega) (by omega) h0 (by omega) (by unfold okE; have := hhb29; omega)).symm) H.below
        · have hhb29 := (⟨(⟨(⟨of_decide_eq_false ((oF ((oF ((oF hb29).1)).1)).1), of_decide_eq_false ((oF ((oF ((oF hb29).1)).1)).2)⟩ : _ ∧ _), of_decide_eq_false ((oF ((oF hb29).1)).2)⟩ : _ ∧ _), of_decide_eq_false ((oF hb29).2)⟩ : _ ∧ _)
          refine go_skip ?_
          refine hK26 _ _ ?_
          refine q_reg [] [(1, .pointer (some ⟨b2, 0, none⟩)), (3, .int .i64 (i + 1))] ((True) ∧ (InR .i64 (i + 1)) ∧ (True) ∧ True) hA H ⟨trivial, ⟨by omega, by omega⟩, trivial, trivial⟩ fun a w32 hA H hG => ?_
          refine ⟨(i + 1), ⟨env_sub _ hA, ⟨_, H⟩, ?_⟩, ?_⟩
          · (try dsimp only); exact ⟨by omega, fun j hj => if e : (j : Int) = i then (by rw [show j = i.toNat by omega]; unfold okE; have := hhb29; omega) else hok j (by omega)⟩
          · (try dsimp only); omega
      · have hhb25 := of_decide_eq_false hb25
        refine go_exit 0 ?_
        refine hK17 _ _ ?_
        refine go_seq fun K33 hK33 => ?_
        refine q_reg [] [(2, .int .i64 0)] ((True) ∧ True) hA H ⟨trivial, trivial⟩ fun a w34 hA H hG => ?_
        refine hK33 _ _ ?_
        refine go_ret_ ?_
        refine ret_one 2 (.int .i64 0) hA ?_
        exact ans_i' ((rightE_ok (by omega) (by omega) (by omega) (by omega) hok).symm) H.below

set_option maxRecDepth 100000 in
set_option maxHeartbeats 1000000 in
theorem rrightPart_any (n : Int) (ve : Value) (E : List (Int × Int)) (vv vl : Value) (V L : List Int) (w : World) (hn : -9223372036854775808 ≤ n ∧ n ≤ 9223372036854775807) (hE : Rd (· < w.heap.size) w ve E) (hV : Rd (· < w.heap.size) w vv V) (hL : Rd (· < w.heap.size) w vl L) :
  Calls Try.prog 32 [.agg #[.int .i64 n, ve], .agg #[vv, vl]].toArray w (Ans (.int .i64 (partE n E V L)) w) := by
  have hlenE := rd_len hE
  have hlenL := rd_len hL
  refine enter Try.f32 64 Try.func32 fun a hA => ?_
  replace hA := env_sub [(0, .agg #[.int .i64 n, ve]), (1, .agg #[vv, vl])] hA
  have H := Fr.start (org w)
  refine go_seq fun K1 hK1 => ?_
  refine region_list ?_
  refine list_at 0 ?_; refine q_box 0 2 24 (.tmp 0) (.agg #[.int .i64 n, ve]) [.int .i64 n, ve] [(1, .agg #[vv, vl])] hA H fun b2 a w3 H hA hG hge_b2 => ?_
  clear hge_b2
  refine list_at 1 ?_; refine q_box 1 3 29 (.tmp 1) (.agg #[vv, vl]) [vv, vl] [(2, .pointer (some ⟨b2, 0, none⟩))] hA H fun b4 a w5 H hA hG hge_b4 => ?_
  clear hge_b4
  refine q_list 2 1 [] [(2, .pointer (some ⟨b2, 0, none⟩)), (3, .pointer (some ⟨b4, 0, none⟩))] ((True) ∧ True) hA H ⟨trivial, trivial⟩ fun a w6 hA H hG => ?_
  refine list_end ?_
  refine hK1 _ _ ?_
  refine go_seq fun K7 hK7 => ?_
  refine q_reg [(7, .agg #[.int .i64 n, ve]), (8, .int .i64 (rightE n E))] [(2, .pointer (some ⟨b2, 0, none⟩)), (3, .pointer (some ⟨b4, 0, none⟩)), (5, .int .i64 (rightE n E))] (((Try.prog.info? 24).isSome = true ∧ RowOk (On w6) b2 (0) (Try.prog.cellsOf 24) #[.int .i64 n, ve]) ∧ (Callable Try.prog 27 ∧ CallOk Try.prog (On w6) 27 [.agg #[.int .i64 n, ve]].toArray (.int .i64 (rightE n E))) ∧ (True) ∧ True) hA H ⟨⟨by kernel_rfl, by exact box_row H 1 rfl 0 2⟩, ⟨callable_of, callOk_of fun w hw => by exact rright_any n ve E w (by omega) (((H.on hw).arg hE))⟩, trivial, trivial⟩ fun a w8 hA H hG => ?_
  refine hK7 _ _ ?_
  refine go_seq fun K9 hK9 => ?_
  refine go_seq fun K10 hK10 => ?_
  refine q_reg [] [(2, .pointer (some ⟨b2, 0, none⟩)), (3, .pointer (some ⟨b4, 0, none⟩)), (5, .int .i64 (rightE n E)), (10, .bool (!decide (rightE n E = 0)))] ((True) ∧ (True) ∧ True) hA H ⟨trivial, trivial, trivial⟩ fun a w11 hA H hG => ?_
  refine hK10 _ _ ?_
  refine go_cond hA (.tmp 10) (!decide (rightE n E = 0)) (fun hb12 => ?_) (fun hb12 => ?_)
  · have hhb12 := of_decide_eq_false (nT hb12)
    refine go_seq fun K13 hK13 => ?_
    refine q_reg [] [(4, .int .i64 (rightE n E))] ((True) ∧ (True) ∧ True) hA H ⟨trivial, trivial, trivial⟩ fun a w14 hA H hG => ?_
    refine hK13 _ _ ?_
    refine go_ret_ ?_
    refine ret_one 4 (.int .i64 (rightE n E)) hA ?_
    exact ans_i' (by unfold partE; rw [if_pos hhb12]) H.below
  · have hhb12 := of_decide_eq_true (nF hb12)
    refine go_skip ?_
    refine hK9 _ _ ?_
    refine go_seq fun K15 hK15 => ?_
    refine go_seq fun K16 hK16 => ?_
    refine q_reg [(13, vv), (15, .int .i64 n), (16, .bool (decide (risesP V n))), (20, vl), (22, ve), (23, .int .i64 (E.length : Int)), (24, .bool (decide (risesP L (E.length : Int))))] [(2, .pointer (some ⟨b2, 0, none⟩)), (3, .pointer (some ⟨b4, 0, none⟩)), (26, .bool ((!(decide (risesP V n))) || (!(decide (risesP L (E.length : Int))))))] ((0 < Try.prog.cellsOf 27) ∧ (CellOk (On w11) b4 (0 + 0) (vv)) ∧ (0 < Try.prog.cellsOf 3) ∧ (CellOk (On w11) b2 (0 + 0) (.int .i64 n)) ∧ (Callable Try.prog 25 ∧ CallOk Try.prog (On w11) 25 [vv, .int .i64 n].toArray (.bool (decide (risesP V n)))) ∧ (True) ∧ (True) ∧ ((!(decide (risesP V n))) = false → 0 < Try.prog.cellsOf 27) ∧ ((!(decide (risesP V n))) = false → CellOk (On w11) b4 (0 + 1) (vl)) ∧ ((!(decide (risesP V n))) = false → 0 < Try.prog.cellsOf 22) ∧ ((!(decide (risesP V n))) = false → CellOk (On w11) b2 (0 + 1) (ve)) ∧ ((!(decide (risesP V n))) = false → LenOk ve (E.length : Int)) ∧ ((!(decide (risesP V n))) = false → Callable Try.prog 25 ∧ CallOk Try.prog (On w11) 25 [vl, .int .i64 (E.length : Int)].toArray (.bool (decide (risesP L (E.length : Int))))) ∧ ((!(decide (risesP V n))) = false → True) ∧ (True) ∧ True) hA H ⟨by decide +kernel, by exact box_cell H 0 rfl 0, by decide +kernel, by exact box_cell H 1 rfl 0, ⟨callable_of, callOk_of fun w hw => by exact rises_any vv V n w (((H.on hw).arg hV))⟩, trivial, trivial, fun _ => by decide +kernel, fun _ => by exact box_cell H 0 rfl 1, fun _ => by decide +kernel, fun _ => by exact box_cell H 1 rfl 1, fun _ => by exact len_ok (H.arg hE), fun _ => ⟨callable_of, callOk_of fun w hw => by exact rises_any vl L (E.length : Int) w (((H.on hw).arg hL))⟩, fun _ => trivial, trivial, trivial⟩ fun a w17 hA H hG => ?_
    refine hK16 _ _ ?_
    refine go_cond hA (.tmp 26) ((!(decide (risesP V n))) || (!(decide (risesP L (E.length : Int))))) (fun hb18 => ?_) (fun hb18 => ?_)
    · have hhb18 := (oT hb18).imp (fun h => of_decide_eq_false (nT h)) (fun h => of_decide_eq_false (nT h))
      refine go_seq fun K19 hK19 => ?_
      refine q_reg [] [(4, .int .i64 4)] ((True) ∧ True) hA H ⟨trivial, trivial⟩ fun a w20 hA H hG => ?_
      refine hK19 _ _ ?_
      refine go_ret_ ?_
      refine ret_one 4 (.int .i64 4) hA ?_
      exact ans_i' (by unfold partE; rw [if_neg (by omega), if_pos hhb18]) H.below
    · have hhb18 := (⟨of_decide_eq_true (nF ((oF hb18).1)), of_decide_eq_true (nF ((oF hb18).2))⟩ : _ ∧ _)
      refine go_skip ?_
      refine hK15 _ _ ?_
      refine go_seq fun K21 hK21 => ?_
      refine go_seq fun K22 hK22 => ?_
      have hr0 := rightE_0 (n := n) (E := E) (by omega)
      obtain ⟨hr1, hr2⟩ := hhb18
      have hv9 := rises_len hr1 (by omega)
      have hl9 := rises_len hr2 (by omega)
      refine q_reg [] [(2, .pointer (some ⟨b2, 0, none⟩)), (3, .pointer (some ⟨b4, 0, none⟩)), (6, .int .i64 0)] ((True) ∧ True) hA H ⟨trivial, trivial⟩ fun a w23 hA H hG => ?_
      refine hK22 _ _ ?_
      refine go_block 0 ?_
      refine go_loop_ (Int) (fun x_ a W => (fun (i : Int) => EnvOk 64 a (keepEnv [(2, .pointer (some ⟨b2, 0, none⟩)), (3, .pointer (some ⟨b4, 0, none⟩)), (6, .int .i64 i)]) ∧ (∃ S, Fr (org w) W S [.box b4 29 [vv, vl], .box b2 24 [.int .i64 n, ve]]) ∧ 0 ≤ i ∧ ∀ j : Nat, (j : Int) < i → hasB V (E.getD (L.getD j 0).toNat (0, 0)).1 = true ∧ hasB V (E.getD (L.getD j 0).toNat (0, 0)).2 = true) x_) (fun x_ => (fun (i : Int) => ((L.length : Int) - i).toNat) x_) (0) ?_ (fun i a w25 hI => ?_)
      · (try dsimp only); exact ⟨env_sub _ hA, ⟨_, H⟩, by omega, fun j hj => by omega⟩
      obtain ⟨hA, ⟨S, H⟩, h0, hok⟩ := hI
      try dsimp only at h0 hok
      refine go_seq fun K26 hK26 => ?_
      refine go_seq fun K27 hK27 => ?_
      refine q_reg [(29, vl), (30, .int .i64 (L.length : Int))] [(2, .pointer (some ⟨b2, 0, none⟩)), (3, .pointer (some ⟨b4, 0, none⟩)), (6, .int .i64 i), (31, .bool (decide (i < (L.length : Int))))] ((True) ∧ (0 < Try.prog.cellsOf 27) ∧ (CellOk (On w25) b4 (0 + 1) (vl)) ∧ (LenOk vl (L.length : Int)) ∧ (True) ∧ True) hA H ⟨trivial, by decide +kernel, by exact box_cell H 0 rfl 1, by exact len_ok (H.arg hL), trivial, trivial⟩ fun a w28 hA H hG => ?_
      refine hK27 _ _ ?_
      refine go_cond hA (.tmp 31) (decide (i < (L.length : Int))) (fun hb29 => ?_) (fun hb29 => ?_)
      · have hhb29 := of_decide_eq_true hb29
        refine go_skip ?_
        refine hK26 _ _ ?_
        refine go_seq fun K30 hK30 => ?_
        refine go_block 1 ?_
        refine go_seq fun K31 hK31 => ?_
        have hx := hr2 i.toNat (by omega)
        refine q_draw [(35, vv), (37, ve), (39, vl), (42, .int .i64 (L.getD i.toNat 0)), (45, .int .i64 ((E.getD (L.getD i.toNat 0).toNat (0, 0)).1)), (46, .bool (decide ((E.getD (L.getD i.toNat 0).toNat (0, 0)).1 ∈ V))), (50, vv), (52, ve), (54, vl), (57, .int .i64 (L.getD i.toNat 0)), (60, .int .i64 ((E.getD (L.getD i.toNat 0).toNat (0, 0)).2)), (61, .bool (decide ((E.getD (L.getD i.toNat 0).toNat (0, 0)).2 ∈ V)))] [(2, .pointer (some ⟨b2, 0, none⟩)), (3, .pointer (some ⟨b4, 0, none⟩)), (6, .int .i64 i), (63, .bool ((!(decide ((E.getD (L.getD i.toNat 0).toNat (0, 0)).1 ∈ V))) || (!(decide ((E.getD (L.getD i.toNat 0).toNat (0, 0)).2 ∈ V)))))] ((0 < Try.prog.cellsOf 27) ∧ (CellOk (On w28) b4 (0 + 0) (vv)) ∧ (0 < Try.prog.cellsOf 22) ∧ (CellOk (On w28) b2 (0 + 1) (ve)) ∧ (0 < Try.prog.cellsOf 27) ∧ (CellOk (On w28) b4 (0 + 1) (vl)) ∧ (True) ∧ ((Try.prog.info? 3).isSome = true ∧ IdxOk vl i) ∧ (CellOk (On w28) (hdB vl) (hdO vl + i.toNat * 1) (.int .i64 (L.getD i.toNat 0))) ∧ ((Try.prog.info? 99).isSome = true ∧ IdxOk ve (L.getD i.toNat 0)) ∧ (0 < Try.prog.cellsOf 3) ∧ (CellOk (On w28) (hdB ve) (hdO ve + (L.getD i.toNat 0).toNat * 2 + 0) (.int .i64 ((E.getD (L.getD i.toNat 0).toNat (0, 0)).1))) ∧ (Callable Try.prog 24 ∧ CallOk Try.prog (On w28) 24 [vv, .int .i64 ((E.getD (L.getD i.toNat 0).toNat (0, 0)).1)].toArray (.bool (decide ((E.getD (L.getD i.toNat 0).toNat (0, 0)).1 ∈ V)))) ∧ (True) ∧ (True) ∧ ((!(decide ((E.getD (L.getD i.toNat 0).toNat (0, 0)).1 ∈ V))) = false → 0 < Try.prog.cellsOf 27) ∧ ((!(decide ((E.getD (L.getD i.toNat 0).toNat (0, 0)).1 ∈ V))) = false → CellOk (On w28) b4 (0 + 0) (vv)) ∧ ((!(decide ((E.getD (L.getD i.toNat 0).toNat (0, 0)).1 ∈ V))) = false → 0 < Try.prog.cellsOf 22) ∧ ((!(decide ((E.getD (L.getD i.toNat 0).toNat (0, 0)).1 ∈ V))) = false → CellOk (On w28) b2 (0 + 1) (ve)) ∧ ((!(decide ((E.getD (L.getD i.toNat 0).toNat (0, 0)).1 ∈ V))) = false → 0 < Try.prog.cellsOf 27) ∧ ((!(decide ((E.getD (L.getD i.toNat 0).toNat (0, 0)).1 ∈ V))) = false → CellOk (On w28) b4 (0 + 1) (vl)) ∧ ((!(decide ((E.getD (L.getD i.toNat 0).toNat (0, 0)).1 ∈ V))) = false → True) ∧ ((!(decide ((E.getD (L.getD i.toNat 0).toNat (0, 0)).1 ∈ V))) = false → (Try.prog.info? 3).isSome = true ∧ IdxOk vl i) ∧ ((!(decide ((E.getD (L.getD i.toNat 0).toNat (0, 0)).1 ∈ V))) = false → CellOk (On w28) (hdB vl) (hdO vl + i.toNat * 1) (.int .i64 (L.getD i.toNat 0))) ∧ ((!(decide ((E.getD (L.getD i.toNat 0).toNat (0, 0)).1 ∈ V))) = false → (Try.prog.info? 99).isSome = true ∧ IdxOk ve (L.getD i.toNat 0)) ∧ ((!(decide ((E.getD (L.getD i.toNat 0).toNat (0, 0)).1 ∈ V))) = false → 0 < Try.prog.cellsOf 3) ∧ ((!(decide ((E.getD (L.getD i.toNat 0).toNat (0, 0)).1 ∈ V))) = false → CellOk (On w28) (hdB ve) (hdO ve + (L.getD i.toNat 0).toNat * 2 + 1) (.int .i64 ((E.getD (L.getD i.toNat 0).toNat (0, 0)).2))) ∧ ((!(decide ((E.getD (L.getD i.toNat 0).toNat (0, 0)).1 ∈ V))) = false → Callable Try.prog 24 ∧ CallOk Try.prog (On w28) 24 [vv, .int .i64 ((E.getD (L.getD i.toNat 0).toNat (0, 0)).2)].toArray (.bool (decide ((E.getD (L.getD i.toNat 0).toNat (0, 0)).2 ∈ V)))) ∧ ((!(decide ((E.getD (L.getD i.toNat 0).toNat (0, 0)).1 ∈ V))) = false → True) ∧ (True) ∧ True) hA H ⟨by decide +kernel, by exact box_cell H 0 rfl 0, by decide +kernel, by exact box_cell H 1 rfl 1, by decide +kernel, by exact box_cell H 0 rfl 1, trivial, ⟨by kernel_rfl, by exact idx_ok (H.arg hL) (by omega) (by omega)⟩, by exact cell_flat (i := i) (H.arg hL) (by omega) (by omega) 0 0, ⟨by kernel_rfl, by exact idx_ok (H.arg hE) (by omega) (by omega)⟩, by decide +kernel, by exact cell_flat (i := (L.getD i.toNat 0)) (H.arg hE) (by omega) (by omega) (0, 0) 0, ⟨callable_of, callOk_of fun w hw => by exact in_any vv V ((E.getD (L.getD i.toNat 0).toNat (0, 0)).1) w (((H.on hw).arg hV))⟩, trivial, trivial, fun _ => by decide +kernel, fun _ => by exact box_cell H 0 rfl 0, fun _ => by decide +kernel, fun _ => by exact box_cell H 1 rfl 1, fun _ => by decide +kernel, fun _ => by exact box_cell H 0 rfl 1, fun _ => trivial, fun hg0 => by replace hg0 := of_decide_eq_true (nF hg0); exact ⟨by kernel_rfl, by exact idx_ok (H.arg hL) (by omega) (by omega)⟩, fun hg0 => by replace hg0 := of_decide_eq_true (nF hg0); exact by exact cell_flat (i := i) (H.arg hL) (by omega) (by omega) 0 0, fun hg0 => by replace hg0 := of_decide_eq_true (nF hg0); exact ⟨by kernel_rfl, by exact idx_ok (H.arg hE) (by omega) (by omega)⟩, fun _ => by decide +kernel, fun hg0 => by replace hg0 := of_decide_eq_true (nF hg0); exact by exact cell_flat (i := (L.getD i.toNat 0)) (H.arg hE) (by omega) (by omega) (0, 0) 1, fun _ => ⟨callable_of, callOk_of fun w hw => by exact in_any vv V ((E.getD (L.getD i.toNat 0).toNat (0, 0)).2) w (((H.on hw).arg hV))⟩, fun _ => trivial, trivial, trivial⟩ fun a w32 hA H hG => ?_
        refine hK31 _ _ ?_
        refine go_cond hA (.tmp 63) ((!(decide ((E.getD (L.getD i.toNat 0).toNat (0, 0)).1 ∈ V))) || (!(decide ((E.getD (L.getD i.toNat 0).toNat (0, 0)).2 ∈ V)))) (fun hb33 => ?_) (fun hb33 => ?_)
        · have hhb33 := (oT hb33).imp (fun h => of_decide_eq_false (nT h)) (fun h => of_decide_eq_false (nT h))
          refine go_seq fun K34 hK34 => ?_
          refine q_reg [] [(4, .int .i64 4)] ((True) ∧ True) hA H ⟨trivial, trivial⟩ fun a w35 hA H hG => ?_
          refine hK34 _ _ ?_
          refine go_ret_ ?_
          refine ret_one 4 (.int .i64 4) hA ?_
          exact ans_i' (by unfold partE; rw [if_neg (by omega), if_neg (by rintro (q | q); exact q hr1; exact q hr2), if_neg (fun q : okPart E V L => by have z := q i.toNat (by omega); rw [hasB_mem hr1, hasB_mem hr1] at z; rcases hhb33 with y | y; exact y (of_decide_eq_true z.1); exact y (of_decide_eq_true z.2))]) H.below
        · have hhb33 := (⟨of_decide_eq_true (nF ((oF hb33).1)), of_decide_eq_true (nF ((oF hb33).2))⟩ : _ ∧ _)
          refine go_skip ?_
          refine hK30 _ _ ?_
          refine q_reg [] [(2, .pointer (some ⟨b2, 0, none⟩)), (3, .pointer (some ⟨b4, 0, none⟩)), (6, .int .i64 (i + 1))] ((True) ∧ (InR .i64 (i + 1)) ∧ (True) ∧ True) hA H ⟨trivial, ⟨by omega, by omega⟩, trivial, trivial⟩ fun a w36 hA H hG => ?_
          refine ⟨(i + 1), ⟨env_sub _ hA, ⟨_, H⟩, ?_⟩, ?_⟩
          · (try dsimp only); exact ⟨by omega, fun j hj => if e : (j : Int) = i then (by rw [show j = i.toNat by omega, hasB_mem hr1, hasB_mem hr1]; exact ⟨decide_eq_true hhb33.1, decide_eq_true hhb33.2⟩) else hok j (by omega)⟩
          · (try dsimp only); omega
      · have hhb29 := of_decide_eq_false hb29
        refine go_exit 0 ?_
        refine hK21 _ _ ?_
        refine go_seq fun K37 hK37 => ?_
        refine q_reg [] [(4, .int .i64 0)] ((True) ∧ True) hA H ⟨trivial, trivial⟩ fun a w38 hA H hG => ?_
        refine hK37 _ _ ?_
        refine go_ret_ ?_
        refine ret_one 4 (.int .i64 0) hA ?_
        exact ans_i' (by unfold partE; rw [if_neg (by omega), if_neg (by rintro (q | q); exact q hr1; exact q hr2), if_pos (show okPart E V L from fun j hj => hok j (by omega))]) H.below

set_option maxRecDepth 100000 in
set_option maxHeartbeats 1000000 in
theorem twin_any (d : Int) (w : World) (h0 : 0 ≤ d) (h1 : d ≤ 1000000000000) :
  Calls Try.prog 21 [.int .i64 d].toArray w (Ans (.int .i64 (twinE d)) w) := by
  refine enter Try.f21 10 Try.func21 fun a hA => ?_
  replace hA := env_sub [(0, .int .i64 d)] hA
  have H := Fr.start (org w)
  refine go_seq fun K1 hK1 => ?_
  refine q_reg [] [(0, .int .i64 d)] ((True) ∧ True) hA H ⟨trivial, trivial⟩ fun a w2 hA H hG => ?_
  refine hK1 _ _ ?_
  refine go_seq fun K3 hK3 => ?_
  refine go_seq fun K4 hK4 => ?_
  refine q_reg [] [(0, .int .i64 d), (5, .bool (decide (d % 2 = 0)))] ((True) ∧ (0 ≤ d ∧ 0 < (2 : Int)) ∧ (True) ∧ True) hA H ⟨trivial, ⟨by omega, by omega⟩, trivial, trivial⟩ fun a w5 hA H hG => ?_
  refine hK4 _ _ ?_
  refine go_cond hA (.tmp 5) (decide (d % 2 = 0)) (fun hb6 => ?_) (fun hb6 => ?_)
  · have hhb6 := of_decide_eq_true hb6
    refine go_seq fun K7 hK7 => ?_
    refine q_reg [] [(2, .int .i64 (d + 1))] ((True) ∧ (InR .i64 (d + 1)) ∧ (True) ∧ True) hA H ⟨trivial, ⟨by omega, by omega⟩, trivial, trivial⟩ fun a w8 hA H hG => ?_
    refine hK7 _ _ ?_
    refine go_ret_ ?_
    refine ret_one 2 (.int .i64 (d + 1)) hA ?_
    exact ans_i' (by unfold twinE; first | rw [if_pos (by omega)] | rw [if_neg (by omega)]) H.below
  · have hhb6 := of_decide_eq_false hb6
    refine go_skip ?_
    refine hK3 _ _ ?_
    refine go_seq fun K9 hK9 => ?_
    refine q_reg [] [(2, .int .i64 (d - 1))] ((True) ∧ (InR .i64 (d - 1)) ∧ (True) ∧ True) hA H ⟨trivial, ⟨by omega, by omega⟩, trivial, trivial⟩ fun a w10 hA H hG => ?_
    refine hK9 _ _ ?_
    refine go_ret_ ?_
    refine ret_one 2 (.int .i64 (d - 1)) hA ?_
    exact ans_i' (by unfold twinE; first | rw [if_pos (by omega)] | rw [if_neg (by omega)]) H.below

set_option maxRecDepth 100000 in
set_option maxHeartbeats 1000000 in
theorem tail_any (n : Int) (ve : Value) (E : List (Int × Int)) (d : Int) (w : World) (hn : -9223372036854775808 ≤ n ∧ n ≤ 9223372036854775807) (hE : Rd (· < w.heap.size) w ve E) (h0 : 0 ≤ d) (h1 : d / 2 < (E.length : Int)) (h2 : d ≤ 1000000000000) :
  Calls Try.prog 34 [.agg #[.int .i64 n, ve], .int .i64 d].toArray w (Ans (.int .i64 (tailE E d)) w) := by
  refine enter Try.f34 22 Try.func34 fun a hA => ?_
  replace hA := env_sub [(0, .agg #[.int .i64 n, ve]), (1, .int .i64 d)] hA
  have H := Fr.start (org w)
  refine go_seq fun K1 hK1 => ?_
  refine region_list ?_
  refine list_at 0 ?_; refine q_box 0 2 24 (.tmp 0) (.agg #[.int .i64 n, ve]) [.int .i64 n, ve] [(1, .int .i64 d)] hA H fun b2 a w3 H hA hG hge_b2 => ?_
  clear hge_b2
  refine q_list 1 1 [] [(1, .int .i64 d), (2, .pointer (some ⟨b2, 0, none⟩))] ((True) ∧ True) hA H ⟨trivial, trivial⟩ fun a w4 hA H hG => ?_
  refine list_end ?_
  refine hK1 _ _ ?_
  refine go_seq fun K5 hK5 => ?_
  refine go_seq fun K6 hK6 => ?_
  refine q_reg [] [(1, .int .i64 d), (2, .pointer (some ⟨b2, 0, none⟩)), (7, .bool (decide (d % 2 = 0)))] ((True) ∧ (0 ≤ d ∧ 0 < (2 : Int)) ∧ (True) ∧ True) hA H ⟨trivial, ⟨by omega, by omega⟩, trivial, trivial⟩ fun a w7 hA H hG => ?_
  refine hK6 _ _ ?_
  refine go_cond hA (.tmp 7) (decide (d % 2 = 0)) (fun hb8 => ?_) (fun hb8 => ?_)
  · have hhb8 := of_decide_eq_true hb8
    refine go_seq fun K9 hK9 => ?_
    refine q_reg [(9, ve), (14, .int .i64 ((E.getD (d / 2).toNat (0, 0)).1))] [(4, .int .i64 ((E.getD (d / 2).toNat (0, 0)).1))] ((0 < Try.prog.cellsOf 22) ∧ (CellOk (On w7) b2 (0 + 1) (ve)) ∧ (True) ∧ (0 ≤ d ∧ 0 < (2 : Int) ∧ InR .i64 d) ∧ ((Try.prog.info? 99).isSome = true ∧ IdxOk ve (d / 2)) ∧ (0 < Try.prog.cellsOf 3) ∧ (CellOk (On w7) (hdB ve) (hdO ve + (d / 2).toNat * 2 + 0) (.int .i64 ((E.getD (d / 2).toNat (0, 0)).1))) ∧ (True) ∧ True) hA H ⟨by decide +kernel, by exact box_cell H 0 rfl 1, trivial, ⟨by omega, by omega, by omega, by omega⟩, ⟨by kernel_rfl, by exact idx_ok (H.arg hE) (by omega) (by omega)⟩, by decide +kernel, by exact cell_flat (i := d / 2) (H.arg hE) (by omega) (by omega) (0, 0) 0, trivial, trivial⟩ fun a w10 hA H hG => ?_
    refine hK9 _ _ ?_
    refine go_ret_ ?_
    refine ret_one 4 (.int .i64 ((E.getD (d / 2).toNat (0, 0)).1)) hA ?_
    exact ans_i' (by unfold tailE; first | rw [if_pos (by omega)] | rw [if_neg (by omega)]) H.below
  · have hhb8 := of_decide_eq_false hb8
    refine go_skip ?_
    refine hK5 _ _ ?_
    refine go_seq fun K11 hK11 => ?_
    refine q_reg [(16, ve), (21, .int .i64 ((E.getD (d / 2).toNat (0, 0)).2))] [(4, .int .i64 ((E.getD (d / 2).toNat (0, 0)).2))] ((0 < Try.prog.cellsOf 22) ∧ (CellOk (On w7) b2 (0 + 1) (ve)) ∧ (True) ∧ (0 ≤ d ∧ 0 < (2 : Int) ∧ InR .i64 d) ∧ ((Try.prog.info? 99).isSome = true ∧ IdxOk ve (d / 2)) ∧ (0 < Try.prog.cellsOf 3) ∧ (CellOk (On w7) (hdB ve) (hdO ve + (d / 2).toNat * 2 + 1) (.int .i64 ((E.getD (d / 2).toNat (0, 0)).2))) ∧ (True) ∧ True) hA H ⟨by decide +kernel, by exact box_cell H 0 rfl 1, trivial, ⟨by omega, by omega, by omega, by omega⟩, ⟨by kernel_rfl, by exact idx_ok (H.arg hE) (by omega) (by omega)⟩, by decide +kernel, by exact cell_flat (i := d / 2) (H.arg hE) (by omega) (by omega) (0, 0) 1, trivial, trivial⟩ fun a w12 hA H hG => ?_
    refine hK11 _ _ ?_
    refine go_ret_ ?_
    refine ret_one 4 (.int .i64 ((E.getD (d / 2).toNat (0, 0)).2)) hA ?_
    exact ans_i' (by unfold tailE; first | rw [if_pos (by omega)] | rw [if_neg (by omega)]) H.below

set_option maxRecDepth 100000 in
set_option maxHeartbeats 1000000 in
theorem head_any (n : Int) (ve : Value) (E : List (Int × Int)) (d : Int) (w : World) (hn : -9223372036854775808 ≤ n ∧ n ≤ 9223372036854775807) (hE : Rd (· < w.heap.size) w ve E) (h0 : 0 ≤ d) (h1 : d / 2 < (E.length : Int)) (h2 : d ≤ 1000000) :
  Calls Try.prog 35 [.agg #[.int .i64 n, ve], .int .i64 d].toArray w (Ans (.int .i64 (tailE E (twinE d))) w) := by
  have ht : 0 ≤ twinE d ∧ twinE d / 2 < (E.length : Int) ∧ twinE d ≤ 1000001 := by unfold twinE; split <;> omega
  refine enter Try.f35 9 Try.func35 fun a hA => ?_
  replace hA := env_sub [(0, .agg #[.int .i64 n, ve]), (1, .int .i64 d)] hA
  have H := Fr.start (org w)
  refine go_seq fun K1 hK1 => ?_
  refine region_list ?_
  refine list_at 0 ?_; refine q_box 0 2 24 (.tmp 0) (.agg #[.int .i64 n, ve]) [.int .i64 n, ve] [(1, .int .i64 d)] hA H fun b2 a w3 H hA hG hge_b2 => ?_
  clear hge_b2
  refine q_list 1 1 [] [(1, .int .i64 d), (2, .pointer (some ⟨b2, 0, none⟩))] ((True) ∧ True) hA H ⟨trivial, trivial⟩ fun a w4 hA H hG => ?_
  refine list_end ?_
  refine hK1 _ _ ?_
  refine go_seq fun K5 hK5 => ?_
  refine q_draw [(5, .agg #[.int .i64 n, ve]), (7, .int .i64 (twinE d)), (8, .int .i64 (tailE E (twinE d)))] [(4, .int .i64 (tailE E (twinE d)))] (((Try.prog.info? 24).isSome = true ∧ RowOk (On w4) b2 (0) (Try.prog.cellsOf 24) #[.int .i64 n, ve]) ∧ (True) ∧ (Callable Try.prog 21 ∧ CallOk Try.prog (On w4) 21 [.int .i64 d].toArray (.int .i64 (twinE d))) ∧ (Callable Try.prog 34 ∧ CallOk Try.prog (On w4) 34 [.agg #[.int .i64 n, ve], .int .i64 (twinE d)].toArray (.int .i64 (tailE E (twinE d)))) ∧ (True) ∧ True) hA H ⟨⟨by kernel_rfl, by exact box_row H 0 rfl 0 2⟩, trivial, ⟨callable_of, callOk_of fun w hw => by exact twin_any d w (by omega) (by omega)⟩, ⟨callable_of, callOk_of fun w hw => by exact tail_any n ve E (twinE d) w (by omega) (((H.on hw).arg hE)) (by omega) (by omega) (by omega)⟩, trivial, trivial⟩ fun a w6 hA H hG => ?_
  refine hK5 _ _ ?_
  refine go_ret_ ?_
  refine ret_one 4 (.int .i64 (tailE E (twinE d))) hA ?_
  exact ans_i' rfl H.below

set_option maxRecDepth 100000 in
set_option maxHeartbeats 1000000 in
theorem small_any (n : Int) (ve : Value) (E : List (Int × Int)) (vv vl : Value) (V L : List Int) (w : World) (hn : -9223372036854775808 ≤ n ∧ n ≤ 9223372036854775807) (hE : Rd (· < w.heap.size) w ve E) (hV : Rd (· < w.heap.size) w vv V) (hL : Rd (· < w.heap.size) w vl L) :
  Calls Try.prog 18 [.agg #[.int .i64 n, ve], .agg #[vv, vl]].toArray w (Ans (.int .i64 (smallI n E V L)) w) := by
  have hlen1 := rd_len hE
  have hlen2 := rd_len hV
  have hlen3 := rd_len hL
  refine enter Try.f18 31 Try.func18 fun a hA => ?_
  replace hA := env_sub [(0, .agg #[.int .i64 n, ve]), (1, .agg #[vv, vl])] hA
  have H := Fr.start (org w)
  refine go_seq fun K1 hK1 => ?_
  refine region_list ?_
  refine list_at 0 ?_; refine q_box 0 2 24 (.tmp 0) (.agg #[.int .i64 n, ve]) [.int .i64 n, ve] [(1, .agg #[vv, vl])] hA H fun b2 a w3 H hA hG hge_b2 => ?_
  clear hge_b2
  refine list_at 1 ?_; refine q_box 1 3 29 (.tmp 1) (.agg #[vv, vl]) [vv, vl] [(2, .pointer (some ⟨b2, 0, none⟩))] hA H fun b4 a w5 H hA hG hge_b4 => ?_
  clear hge_b4
  refine q_list 2 1 [] [(2, .pointer (some ⟨b2, 0, none⟩)), (3, .pointer (some ⟨b4, 0, none⟩))] ((True) ∧ True) hA H ⟨trivial, trivial⟩ fun a w6 hA H hG => ?_
  refine list_end ?_
  refine hK1 _ _ ?_
  refine go_seq fun K7 hK7 => ?_
  refine go_seq fun K8 hK8 => ?_
  refine q_reg [(6, ve), (7, .int .i64 (E.length : Int)), (11, vv), (12, .int .i64 (V.length : Int)), (17, vl), (18, .int .i64 (L.length : Int)), (23, .int .i64 n), (27, .int .i64 n)] [(30, .bool ((((decide ((60 : Int) < (E.length : Int))) || (decide ((60 : Int) < (V.length : Int)))) || (decide ((60 : Int) < (L.length : Int)))) || ((decide ((60 : Int) < n)) && (decide (n ≤ 1024)))))] ((0 < Try.prog.cellsOf 22) ∧ (CellOk (On w6) b2 (0 + 1) (ve)) ∧ (LenOk ve (E.length : Int)) ∧ (True) ∧ (True) ∧ ((decide ((60 : Int) < (E.length : Int))) = false → 0 < Try.prog.cellsOf 27) ∧ ((decide ((60 : Int) < (E.length : Int))) = false → CellOk (On w6) b4 (0 + 0) (vv)) ∧ ((decide ((60 : Int) < (E.length : Int))) = false → LenOk vv (V.length : Int)) ∧ ((decide ((60 : Int) < (E.length : Int))) = false → True) ∧ (True) ∧ (True) ∧ (((decide ((60 : Int) < (E.length : Int))) || (decide ((60 : Int) < (V.length : Int)))) = false → 0 < Try.prog.cellsOf 27) ∧ (((decide ((60 : Int) < (E.length : Int))) || (decide ((60 : Int) < (V.length : Int)))) = false → CellOk (On w6) b4 (0 + 1) (vl)) ∧ (((decide ((60 : Int) < (E.length : Int))) || (decide ((60 : Int) < (V.length : Int)))) = false → LenOk vl (L.length : Int)) ∧ (((decide ((60 : Int) < (E.length : Int))) || (decide ((60 : Int) < (V.length : Int)))) = false → True) ∧ (True) ∧ (True) ∧ ((((decide ((60 : Int) < (E.length : Int))) || (decide ((60 : Int) < (V.length : Int)))) || (decide ((60 : Int) < (L.length : Int)))) = false → 0 < Try.prog.cellsOf 3) ∧ ((((decide ((60 : Int) < (E.length : Int))) || (decide ((60 : Int) < (V.length : Int)))) || (decide ((60 : Int) < (L.length : Int)))) = false → CellOk (On w6) b2 (0 + 0) (.int .i64 n)) ∧ ((((decide ((60 : Int) < (E.length : Int))) || (decide ((60 : Int) < (V.length : Int)))) || (decide ((60 : Int) < (L.length : Int)))) = false → True) ∧ ((((decide ((60 : Int) < (E.length : Int))) || (decide ((60 : Int) < (V.length : Int)))) || (decide ((60 : Int) < (L.length : Int)))) = false → True) ∧ ((((decide ((60 : Int) < (E.length : Int))) || (decide ((60 : Int) < (V.length : Int)))) || (decide ((60 : Int) < (L.length : Int)))) = false → (decide ((60 : Int) < n)) = true → 0 < Try.prog.cellsOf 3) ∧ ((((decide ((60 : Int) < (E.length : Int))) || (decide ((60 : Int) < (V.length : Int)))) || (decide ((60 : Int) < (L.length : Int)))) = false → (decide ((60 : Int) < n)) = true → CellOk (On w6) b2 (0 + 0) (.int .i64 n)) ∧ ((((decide ((60 : Int) < (E.length : Int))) || (decide ((60 : Int) < (V.length : Int)))) || (decide ((60 : Int) < (L.length : Int)))) = false → (decide ((60 : Int) < n)) = true → True) ∧ ((((decide ((60 : Int) < (E.length : Int))) || (decide ((60 : Int) < (V.length : Int)))) || (decide ((60 : Int) < (L.length : Int)))) = false → True) ∧ (True) ∧ True) hA H ⟨by decide +kernel, by exact box_cell H 1 rfl 1, by exact len_ok (H.arg hE), trivial, trivial, fun _ => by decide +kernel, fun _ => by exact box_cell H 0 rfl 0, fun _ => by exact len_ok (H.arg hV), fun _ => trivial, trivial, trivial, fun _ => by decide +kernel, fun _ => by exact box_cell H 0 rfl 1, fun _ => by exact len_ok (H.arg hL), fun _ => trivial, trivial, trivial, fun _ => by decide +kernel, fun _ => by exact box_cell H 1 rfl 0, fun _ => trivial, fun _ => trivial, fun _ _ => by decide +kernel, fun _ _ => by exact box_cell H 1 rfl 0, fun _ _ => trivial, fun _ => trivial, trivial, trivial⟩ fun a w9 hA H hG => ?_
  refine hK8 _ _ ?_
  refine go_cond hA (.tmp 30) ((((decide ((60 : Int) < (E.length : Int))) || (decide ((60 : Int) < (V.length : Int)))) || (decide ((60 : Int) < (L.length : Int)))) || ((decide ((60 : Int) < n)) && (decide (n ≤ 1024)))) (fun hb10 => ?_) (fun hb10 => ?_)
  · have hhb10 := (oT hb10).imp (fun h => (oT h).imp (fun h => (oT h).imp (fun h => of_decide_eq_true h) (fun h => of_decide_eq_true h)) (fun h => of_decide_eq_true h)) (fun h => (⟨of_decide_eq_true ((aT h).1), of_decide_eq_true ((aT h).2)⟩ : _ ∧ _))
    refine go_seq fun K11 hK11 => ?_
    refine q_reg [] [(4, .int .i64 0)] ((True) ∧ True) hA H ⟨trivial, trivial⟩ fun a w12 hA H hG => ?_
    refine hK11 _ _ ?_
    refine go_ret_ ?_
    refine ret_one 4 (.int .i64 0) hA ?_
    exact ans_i' (by unfold smallI; first | rw [if_pos (by omega)] | rw [if_neg (by omega)]) H.below
  · have hhb10 := (⟨(⟨(⟨of_decide_eq_false ((oF ((oF ((oF hb10).1)).1)).1), of_decide_eq_false ((oF ((oF ((oF hb10).1)).1)).2)⟩ : _ ∧ _), of_decide_eq_false ((oF ((oF hb10).1)).2)⟩ : _ ∧ _), (aF ((oF hb10).2)).imp (fun h => of_decide_eq_false h) (fun h => of_decide_eq_false h)⟩ : _ ∧ _)
    refine go_skip ?_
    refine hK7 _ _ ?_
    refine go_seq fun K13 hK13 => ?_
    refine q_reg [] [(4, .int .i64 1)] ((True) ∧ True) hA H ⟨trivial, trivial⟩ fun a w14 hA H hG => ?_
    refine hK13 _ _ ?_
    refine go_ret_ ?_
    refine ret_one 4 (.int .i64 1) hA ?_
    exact ans_i' (by unfold smallI; first | rw [if_pos (by omega)] | rw [if_neg (by omega)]) H.below

end Go.Proofs.Ytahonnlgkmimlaa

set_option linter.unusedSimpArgs false
set_option linter.unusedVariables false
namespace Go.Proofs.Ytahonnlgkmimlaa
open Go.RowKit

set_option maxRecDepth 100000 in
set_option maxHeartbeats 1000000 in
theorem merge_any (va vb : Value) (la lb : List Int) (n : Int) (o : Orig) (ha : Rd (· < o.w.heap.size) o.w va la) (hb : Rd (· < o.w.heap.size) o.w vb lb) (hs : la.length + lb.length ≤ 1000000000) :
  Calls Try.prog 78 [va, vb, .int .i64 n].toArray o.w (Giv o (fun S v w' => Rd S w' v (mergeL la lb n))) := by
  refine enter Try.f78 78 Try.func78 fun a hA => ?_
  replace hA := env_sub [(0, va), (1, vb), (2, .int .i64 n)] hA
  have H := Fr.start o
  refine go_seq fun K1 hK1 => ?_
  refine q_reg [] [(0, va), (1, vb), (2, .int .i64 n)] ((True) ∧ True) hA H ⟨trivial, trivial⟩ fun a w2 hA H hG => ?_
  refine hK1 _ _ ?_
  refine go_seq fun K3 hK3 => ?_
  refine q_reg [] [(0, va), (1, vb), (2, .int .i64 n), (7, (.slice none 0 0))] ((True) ∧ True) hA H ⟨trivial, trivial⟩ fun a w4 hA H hG => ?_
  refine hK3 _ _ ?_
  refine go_seq fun K5 hK5 => ?_
  refine go_block 0 ?_
  replace H := H.newRow (α := Int) 3
  refine go_loop_ (Value × Value × List Int × List Int × Value × List Int) (fun x_ a W => (fun (vp : Value) (vq : Value) (lp : List Int) (lq : List Int) (vr : Value) (l : List Int) => EnvOk 78 a (keepEnv [(0, vp), (1, vq), (2, .int .i64 n), (7, vr)]) ∧ (∃ S, Fr o W S [.row 3 vr l]) ∧ Rd (· < o.w.heap.size) o.w vp lp ∧ Rd (· < o.w.heap.size) o.w vq lq ∧ l.length + lp.length + lq.length ≤ la.length + lb.length ∧ l ++ mergeL lp lq n = mergeL la lb n) x_.1 x_.2.1 x_.2.2.1 x_.2.2.2.1 x_.2.2.2.2.1 x_.2.2.2.2.2) (fun x_ => (fun (vp : Value) (vq : Value) (lp : List Int) (lq : List Int) (vr : Value) (l : List Int) => lp.length + lq.length) x_.1 x_.2.1 x_.2.2.1 x_.2.2.2.1 x_.2.2.2.2.1 x_.2.2.2.2.2) (va, vb, la, lb, .slice none 0 0, []) ?_ (fun x_ a w7 hI => ?_)
  · (try dsimp only); exact ⟨env_sub _ hA, ⟨_, H⟩, ha, hb, by simp, rfl⟩
  obtain ⟨vp, vq, lp, lq, vr, l⟩ := x_
  obtain ⟨hA, ⟨S, H⟩, hp, hq, h1, hi⟩ := hI
  try dsimp only at hp hq h1 hi
  refine go_seq fun K8 hK8 => ?_
  refine go_seq fun K9 hK9 => ?_
  refine q_reg [(9, .int .i64 (lp.length : Int)), (13, .int .i64 (lq.length : Int))] [(0, vp), (1, vq), (2, .int .i64 n), (7, vr), (15, .bool ((decide ((0 : Int) < (lp.length : Int))) || (decide ((0 : Int) < (lq.length : Int)))))] ((True) ∧ (LenOk vp (lp.length : Int)) ∧ (True) ∧ (True) ∧ ((decide ((0 : Int) < (lp.length : Int))) = false → True) ∧ ((decide ((0 : Int) < (lp.length : Int))) = false → LenOk vq (lq.length : Int)) ∧ ((decide ((0 : Int) < (lp.length : Int))) = false → True) ∧ (True) ∧ True) hA H ⟨trivial, by exact len_ok (H.arg hp), trivial, trivial, fun _ => trivial, fun _ => by exact len_ok (H.arg hq), fun _ => trivial, trivial, trivial⟩ fun a w10 hA H hG => ?_
  refine hK9 _ _ ?_
  refine go_cond hA (.tmp 15) ((decide ((0 : Int) < (lp.length : Int))) || (decide ((0 : Int) < (lq.length : Int)))) (fun hb11 => ?_) (fun hb11 => ?_)
  · have hhb11 := (oT hb11).imp (fun h => of_decide_eq_true h) (fun h => of_decide_eq_true h)
    refine go_skip ?_
    refine hK8 _ _ ?_
    refine go_block 1 ?_
    refine go_block 2 ?_
    refine go_seq fun K12 hK12 => ?_
    refine q_draw [(28, .int .i64 (lq.length : Int)), (32, .int .i64 (lp.length : Int)), (37, .int .i64 (lp.getD (0 : Int).toNat 0)), (40, .int .i64 (lq.getD (0 : Int).toNat 0))] [(0, vp), (1, vq), (2, .int .i64 n), (7, vr), (26, .bool ((decide ((lq.length : Int) = 0)) || ((decide ((0 : Int) < (lp.length : Int))) && (decide ((lp.getD (0 : Int).toNat 0) < (lq.getD (0 : Int).toNat 0))))))] ((True) ∧ (LenOk vq (lq.length : Int)) ∧ (True) ∧ (True) ∧ ((decide ((lq.length : Int) = 0)) = false → True) ∧ ((decide ((lq.length : Int) = 0)) = false → LenOk vp (lp.length : Int)) ∧ ((decide ((lq.length : Int) = 0)) = false → True) ∧ ((decide ((lq.length : Int) = 0)) = false → True) ∧ ((decide ((lq.length : Int) = 0)) = false → (decide ((0 : Int) < (lp.length : Int))) = true → True) ∧ ((decide ((lq.length : Int) = 0)) = false → (decide ((0 : Int) < (lp.length : Int))) = true → (Try.prog.info? 3).isSome = true ∧ IdxOk vp 0) ∧ ((decide ((lq.length : Int) = 0)) = false → (decide ((0 : Int) < (lp.length : Int))) = true → CellOk (On w10) (hdB vp) (hdO vp + (0 : Int).toNat * 1) (.int .i64 (lp.getD (0 : Int).toNat 0))) ∧ ((decide ((lq.length : Int) = 0)) = false → (decide ((0 : Int) < (lp.length : Int))) = true → True) ∧ ((decide ((lq.length : Int) = 0)) = false → (decide ((0 : Int) < (lp.length : Int))) = true → (Try.prog.info? 3).isSome = true ∧ IdxOk vq 0) ∧ ((decide ((lq.length : Int) = 0)) = false → (decide ((0 : Int) < (lp.length : Int))) = true → CellOk (On w10) (hdB vq) (hdO vq + (0 : Int).toNat * 1) (.int .i64 (lq.getD (0 : Int).toNat 0))) ∧ ((decide ((lq.length : Int) = 0)) = false → (decide ((0 : Int) < (lp.length : Int))) = true → True) ∧ ((decide ((lq.length : Int) = 0)) = false → True) ∧ (True) ∧ (True) ∧ True) hA H ⟨trivial, by exact len_ok (H.arg hq), trivial, trivial, fun _ => trivial, fun _ => by exact len_ok (H.arg hp), fun _ => trivial, fun _ => trivial, fun _ _ => trivial, fun hg0 hg1 => by replace hg0 := of_decide_eq_false hg0; replace hg1 := of_decide_eq_true hg1; exact ⟨by kernel_rfl, by exact idx_ok (H.arg hp) (by omega) (by omega)⟩, fun hg0 hg1 => by replace hg0 := of_decide_eq_false hg0; replace hg1 := of_decide_eq_true hg1; exact by exact cell_flat (i := (0 : Int)) (H.arg hp) (by omega) (by omega) 0 0, fun _ _ => trivial, fun hg0 hg1 => by replace hg0 := of_decide_eq_false hg0; replace hg1 := of_decide_eq_true hg1; exact ⟨by kernel_rfl, by exact idx_ok (H.arg hq) (by omega) (by omega)⟩, fun hg0 hg1 => by replace hg0 := of_decide_eq_false hg0; replace hg1 := of_decide_eq_true hg1; exact by exact cell_flat (i := (0 : Int)) (H.arg hq) (by omega) (by omega) 0 0, fun _ _ => trivial, fun _ => trivial, trivial, trivial, trivial⟩ fun a w13 hA H hG => ?_
    refine hK12 _ _ ?_
    refine go_cond hA (.tmp 26) ((decide ((lq.length : Int) = 0)) || ((decide ((0 : Int) < (lp.length : Int))) && (decide ((lp.getD (0 : Int).toNat 0) < (lq.getD (0 : Int).toNat 0))))) (fun hb14 => ?_) (fun hb14 => ?_)
    · have hhb14 := (oT hb14).imp (fun h => of_decide_eq_true h) (fun h => (⟨of_decide_eq_true ((aT h).1), of_decide_eq_true ((aT h).2)⟩ : _ ∧ _))
      refine go_seq fun K15 hK15 => ?_
      refine go_seq fun K16 hK16 => ?_
      refine q_reg [] [(0, vp), (1, vq), (2, .int .i64 n), (7, vr), (45, .bool (decide (n = 1)))] ((True) ∧ (True) ∧ True) hA H ⟨trivial, trivial, trivial⟩ fun a w17 hA H hG => ?_
      refine hK16 _ _ ?_
      refine go_cond hA (.tmp 45) (decide (n = 1)) (fun hb18 => ?_) (fun hb18 => ?_)
      · have hhb18 := of_decide_eq_true hb18
        refine region_list ?_
        refine q_list 0 4 [(49, .int .i64 (lp.getD (0 : Int).toNat 0))] [(0, vp), (1, vq), (2, .int .i64 n), (46, vr), (49, .int .i64 (lp.getD (0 : Int).toNat 0))] ((True) ∧ (True) ∧ ((Try.prog.info? 3).isSome = true ∧ IdxOk vp 0) ∧ (CellOk (On w17) (hdB vp) (hdO vp + (0 : Int).toNat * 1) (.int .i64 (lp.getD (0 : Int).toNat 0))) ∧ True) hA H ⟨trivial, trivial, ⟨by kernel_rfl, by exact idx_ok (H.arg hp) (by omega) (by omega)⟩, by exact cell_flat (i := (0 : Int)) (H.arg hp) (by omega) (by omega) 0 0, trivial⟩ fun a w19 hA H hG => ?_
        refine list_at 4 ?_; refine q_lit 4 50 27 1 #[(0, .tmp 49)] 3 [(0, .int .i64 (lp.getD (0 : Int).toNat 0))] [.int .i64 (lp.getD (0 : Int).toNat 0)] [(0, vp), (1, vq), (2, .int .i64 n), (46, vr)] hA H fun b20 a w21 H hA hG hge_b20 => ?_
        clear hge_b20
        refine list_at 5 ?_; refine q_push 5 51 (.tmp 46) (.tmp 50) 1 0 b20 1 1 vr l [(lp.getD (0 : Int).toNat 0)] [.int .i64 (lp.getD (0 : Int).toNat 0)] [(0, vp), (1, vq), (2, .int .i64 n)] hA H Try.E27 rfl rfl (by exact (RowRd.single (α := Int) rfl)) rfl (by simp only [List.length_cons, List.length_nil, List.length_append]; omega) (by decide) fun v22 a w23 H hA hG => ?_
        replace H : Fr _ _ _ [.row 3 v22 (l ++ [(lp.getD (0 : Int).toNat 0)])] := H.drop 0
        refine q_list 6 1 [] [(0, vp), (1, vq), (2, .int .i64 n), (7, v22)] ((True) ∧ True) hA H ⟨trivial, trivial⟩ fun a w24 hA H hG => ?_
        refine list_end ?_
        refine hK15 _ _ ?_
        obtain ⟨u25, _, hu25c, hu25⟩ := reslice (P := Try.prog) hp 1 lp.length (by omega) (by omega) 27 Try.underlying27 (by kernel_rfl) (by kernel_rfl)
        rw [List.take_of_length_le (by rw [List.length_drop]; omega)] at hu25
        refine q_reg [(53, u25)] [(0, u25), (1, vq), (2, .int .i64 n), (7, v22)] ((True) ∧ (∀ w, (Instr.sliceAt 27 vp (some (.int .i64 1)) none none).run Try.prog w = .ok u25 w) ∧ (True) ∧ True) hA H ⟨trivial, fun w => by exact hu25c rfl .i64 w, trivial, trivial⟩ fun a w26 hA H hG => ?_
        refine ⟨(u25, vq, lp.drop 1, lq, v22, l ++ [(lp.getD (0 : Int).toNat 0)]), ⟨env_sub _ hA, ⟨_, H⟩, ?_⟩, ?_⟩
        · (try dsimp only); exact ⟨hu25, hq, by simp only [List.length_append, List.length_cons, List.length_nil, List.length_drop]; omega, by rw [mergeL_round (by omega)] at hi; (repeat' split at hi) <;> first | (exfalso; omega) | (rw [← hi]; simp only [List.append_assoc, List.nil_append]; done) | (simp only [List.nil_append] at hi; exact hi)⟩
        · (try dsimp only); simp only [List.length_drop]; omega
      · have hhb18 := of_decide_eq_false hb18
        refine go_skip ?_
        refine hK15 _ _ ?_
        obtain ⟨u27, _, hu27c, hu27⟩ := reslice (P := Try.prog) hp 1 lp.length (by omega) (by omega) 27 Try.underlying27 (by kernel_rfl) (by kernel_rfl)
        rw [List.take_of_length_le (by rw [List.length_drop]; omega)] at hu27
        refine q_reg [(53, u27)] [(0, u27), (1, vq), (2, .int .i64 n), (7, vr)] ((True) ∧ (∀ w, (Instr.sliceAt 27 vp (some (.int .i64 1)) none none).run Try.prog w = .ok u27 w) ∧ (True) ∧ True) hA H ⟨trivial, fun w => by exact hu27c rfl .i64 w, trivial, trivial⟩ fun a w28 hA H hG => ?_
        refine ⟨(u27, vq, lp.drop 1, lq, vr, l), ⟨env_sub _ hA, ⟨_, H⟩, ?_⟩, ?_⟩
        · (try dsimp only); exact ⟨hu27, hq, by simp only [List.length_append, List.length_cons, List.length_nil, List.length_drop]; omega, by rw [mergeL_round (by omega)] at hi; (repeat' split at hi) <;> first | (exfalso; omega) | (rw [← hi]; simp only [List.append_assoc, List.nil_append]; done) | (simp only [List.nil_append] at hi; exact hi)⟩
        · (try dsimp only); simp only [List.length_drop]; omega
    · have hhb14 := (⟨of_decide_eq_false ((oF hb14).1), (aF ((oF hb14).2)).imp (fun h => of_decide_eq_false h) (fun h => of_decide_eq_false h)⟩ : _ ∧ _)
      refine go_seq fun K29 hK29 => ?_
      refine q_draw [(56, .int .i64 (lp.length : Int)), (61, .int .i64 (lq.getD (0 : Int).toNat 0)), (64, .int .i64 (lp.getD (0 : Int).toNat 0))] [(0, vp), (1, vq), (2, .int .i64 n), (7, vr), (54, .bool ((decide ((lp.length : Int) = 0)) || (decide ((lq.getD (0 : Int).toNat 0) < (lp.getD (0 : Int).toNat 0)))))] ((True) ∧ (LenOk vp (lp.length : Int)) ∧ (True) ∧ (True) ∧ ((decide ((lp.length : Int) = 0)) = false → True) ∧ ((decide ((lp.length : Int) = 0)) = false → (Try.prog.info? 3).isSome = true ∧ IdxOk vq 0) ∧ ((decide ((lp.length : Int) = 0)) = false → CellOk (On w13) (hdB vq) (hdO vq + (0 : Int).toNat * 1) (.int .i64 (lq.getD (0 : Int).toNat 0))) ∧ ((decide ((lp.length : Int) = 0)) = false → True) ∧ ((decide ((lp.length : Int) = 0)) = false → (Try.prog.info? 3).isSome = true ∧ IdxOk vp 0) ∧ ((decide ((lp.length : Int) = 0)) = false → CellOk (On w13) (hdB vp) (hdO vp + (0 : Int).toNat * 1) (.int .i64 (lp.getD (0 : Int).toNat 0))) ∧ ((decide ((lp.length : Int) = 0)) = false → True) ∧ (True) ∧ (True) ∧ True) hA H ⟨trivial, by exact len_ok (H.arg hp), trivial, trivial, fun _ => trivial, fun hg0 => by replace hg0 := of_decide_eq_false hg0; exact ⟨by kernel_rfl, by exact idx_ok (H.arg hq) (by omega) (by omega)⟩, fun hg0 => by replace hg0 := of_decide_eq_false hg0; exact by exact cell_flat (i := (0 : Int)) (H.arg hq) (by omega) (by omega) 0 0, fun _ => trivial, fun hg0 => by replace hg0 := of_decide_eq_false hg0; exact ⟨by kernel_rfl, by exact idx_ok (H.arg hp) (by omega) (by omega)⟩, fun hg0 => by replace hg0 := of_decide_eq_false hg0; exact by exact cell_flat (i := (0 : Int)) (H.arg hp) (by omega) (by omega) 0 0, fun _ => trivial, trivial, trivial, trivial⟩ fun a w30 hA H hG => ?_
      refine hK29 _ _ ?_
      refine go_cond hA (.tmp 54) ((decide ((lp.length : Int) = 0)) || (decide ((lq.getD (0 : Int).toNat 0) < (lp.getD (0 : Int).toNat 0)))) (fun hb31 => ?_) (fun hb31 => ?_)
      · have hhb31 := (oT hb31).imp (fun h => of_decide_eq_true h) (fun h => of_decide_eq_true h)
        refine go_seq fun K32 hK32 => ?_
        refine go_seq fun K33 hK33 => ?_
        refine q_reg [] [(0, vp), (1, vq), (2, .int .i64 n), (7, vr), (68, .bool (decide (n = 1)))] ((True) ∧ (True) ∧ True) hA H ⟨trivial, trivial, trivial⟩ fun a w34 hA H hG => ?_
        refine hK33 _ _ ?_
        refine go_cond hA (.tmp 68) (decide (n = 1)) (fun hb35 => ?_) (fun hb35 => ?_)
        · have hhb35 := of_decide_eq_true hb35
          refine region_list ?_
          refine q_list 0 4 [(72, .int .i64 (lq.getD (0 : Int).toNat 0))] [(0, vp), (1, vq), (2, .int .i64 n), (69, vr), (72, .int .i64 (lq.getD (0 : Int).toNat 0))] ((True) ∧ (True) ∧ ((Try.prog.info? 3).isSome = true ∧ IdxOk vq 0) ∧ (CellOk (On w34) (hdB vq) (hdO vq + (0 : Int).toNat * 1) (.int .i64 (lq.getD (0 : Int).toNat 0))) ∧ True) hA H ⟨trivial, trivial, ⟨by kernel_rfl, by exact idx_ok (H.arg hq) (by omega) (by omega)⟩, by exact cell_flat (i := (0 : Int)) (H.arg hq) (by omega) (by omega) 0 0, trivial⟩ fun a w36 hA H hG => ?_
          refine list_at 4 ?_; refine q_lit 4 73 27 1 #[(0, .tmp 72)] 3 [(0, .int .i64 (lq.getD (0 : Int).toNat 0))] [.int .i64 (lq.getD (0 : Int).toNat 0)] [(0, vp), (1, vq), (2, .int .i64 n), (69, vr)] hA H fun b37 a w38 H hA hG hge_b37 => ?_
          clear hge_b37
          refine list_at 5 ?_; refine q_push 5 74 (.tmp 69) (.tmp 73) 1 0 b37 1 1 vr l [(lq.getD (0 : Int).toNat 0)] [.int .i64 (lq.getD (0 : Int).toNat 0)] [(0, vp), (1, vq), (2, .int .i64 n)] hA H Try.E27 rfl rfl (by exact (RowRd.single (α := Int) rfl)) rfl (by simp only [List.length_cons, List.length_nil, List.length_append]; omega) (by decide) fun v39 a w40 H hA hG => ?_
          replace H : Fr _ _ _ [.row 3 v39 (l ++ [(lq.getD (0 : Int).toNat 0)])] := H.drop 0
          refine q_list 6 1 [] [(0, vp), (1, vq), (2, .int .i64 n), (7, v39)] ((True) ∧ True) hA H ⟨trivial, trivial⟩ fun a w41 hA H hG => ?_
          refine list_end ?_
          refine hK32 _ _ ?_
          obtain ⟨u42, _, hu42c, hu42⟩ := reslice (P := Try.prog) hq 1 lq.length (by omega) (by omega) 27 Try.underlying27 (by kernel_rfl) (by kernel_rfl)
          rw [List.take_of_length_le (by rw [List.length_drop]; omega)] at hu42
          refine q_reg [(76, u42)] [(0, vp), (1, u42), (2, .int .i64 n), (7, v39)] ((True) ∧ (∀ w, (Instr.sliceAt 27 vq (some (.int .i64 1)) none none).run Try.prog w = .ok u42 w) ∧ (True) ∧ True) hA H ⟨trivial, fun w => by exact hu42c rfl .i64 w, trivial, trivial⟩ fun a w43 hA H hG => ?_
          refine ⟨(vp, u42, lp, lq.drop 1, v39, l ++ [(lq.getD (0 : Int).toNat 0)]), ⟨env_sub _ hA, ⟨_, H⟩, ?_⟩, ?_⟩
          · (try dsimp only); exact ⟨hp, hu42, by simp only [List.length_append, List.length_cons, List.length_nil, List.length_drop]; omega, by rw [mergeL_round (by omega)] at hi; (repeat' split at hi) <;> first | (exfalso; omega) | (rw [← hi]; simp only [List.append_assoc, List.nil_append]; done) | (simp only [List.nil_append] at hi; exact hi)⟩
          · (try dsimp only); simp only [List.length_drop]; omega
        · have hhb35 := of_decide_eq_false hb35
          refine go_skip ?_
          refine hK32 _ _ ?_
          obtain ⟨u44, _, hu44c, hu44⟩ := reslice (P := Try.prog) hq 1 lq.length (by omega) (by omega) 27 Try.underlying27 (by kernel_rfl) (by kernel_rfl)
          rw [List.take_of_length_le (by rw [List.length_drop]; omega)] at hu44
          refine q_reg [(76, u44)] [(0, vp), (1, u44), (2, .int .i64 n), (7, vr)] ((True) ∧ (∀ w, (Instr.sliceAt 27 vq (some (.int .i64 1)) none none).run Try.prog w = .ok u44 w) ∧ (True) ∧ True) hA H ⟨trivial, fun w => by exact hu44c rfl .i64 w, trivial, trivial⟩ fun a w45 hA H hG => ?_
          refine ⟨(vp, u44, lp, lq.drop 1, vr, l), ⟨env_sub _ hA, ⟨_, H⟩, ?_⟩, ?_⟩
          · (try dsimp only); exact ⟨hp, hu44, by simp only [List.length_append, List.length_cons, List.length_nil, List.length_drop]; omega, by rw [mergeL_round (by omega)] at hi; (repeat' split at hi) <;> first | (exfalso; omega) | (rw [← hi]; simp only [List.append_assoc, List.nil_append]; done) | (simp only [List.nil_append] at hi; exact hi)⟩
          · (try dsimp only); simp only [List.length_drop]; omega
      · have hhb31 := (⟨of_decide_eq_false ((oF hb31).1), of_decide_eq_false ((oF hb31).2)⟩ : _ ∧ _)
        refine go_seq fun K46 hK46 => ?_
        refine region_list ?_
        refine q_list 0 4 [(19, .int .i64 (lp.getD (0 : Int).toNat 0))] [(0, vp), (1, vq), (2, .int .i64 n), (16, vr), (19, .int .i64 (lp.getD (0 : Int).toNat 0))] ((True) ∧ (True) ∧ ((Try.prog.info? 3).isSome = true ∧ IdxOk vp 0) ∧ (CellOk (On w30) (hdB vp) (hdO vp + (0 : Int).toNat * 1) (.int .i64 (lp.getD (0 : Int).toNat 0))) ∧ True) hA H ⟨trivial, trivial, ⟨by kernel_rfl, by exact idx_ok (H.arg hp) (by omega) (by omega)⟩, by exact cell_flat (i := (0 : Int)) (H.arg hp) (by omega) (by omega) 0 0, trivial⟩ fun a w47 hA H hG => ?_
        refine list_at 4 ?_; refine q_lit 4 20 27 1 #[(0, .tmp 19)] 3 [(0, .int .i64 (lp.getD (0 : Int).toNat 0))] [.int .i64 (lp.getD (0 : Int).toNat 0)] [(0, vp), (1, vq), (2, .int .i64 n), (16, vr)] hA H fun b48 a w49 H hA hG hge_b48 => ?_
        clear hge_b48
        refine list_at 5 ?_; refine q_push 5 21 (.tmp 16) (.tmp 20) 1 0 b48 1 1 vr l [(lp.getD (0 : Int).toNat 0)] [.int .i64 (lp.getD (0 : Int).toNat 0)] [(0, vp), (1, vq), (2, .int .i64 n)] hA H Try.E27 rfl rfl (by exact (RowRd.single (α := Int) rfl)) rfl (by simp only [List.length_cons, List.length_nil, List.length_append]; omega) (by decide) fun v50 a w51 H hA hG => ?_
        replace H : Fr _ _ _ [.row 3 v50 (l ++ [(lp.getD (0 : Int).toNat 0)])] := H.drop 0
        refine q_list 6 1 [] [(0, vp), (1, vq), (2, .int .i64 n), (7, v50)] ((True) ∧ True) hA H ⟨trivial, trivial⟩ fun a w52 hA H hG => ?_
        refine list_end ?_
        refine hK46 _ _ ?_
        obtain ⟨u53, _, hu53c, hu53⟩ := reslice (P := Try.prog) hp 1 lp.length (by omega) (by omega) 27 Try.underlying27 (by kernel_rfl) (by kernel_rfl)
        rw [List.take_of_length_le (by rw [List.length_drop]; omega)] at hu53
        obtain ⟨u54, _, hu54c, hu54⟩ := reslice (P := Try.prog) hq 1 lq.length (by omega) (by omega) 27 Try.underlying27 (by kernel_rfl) (by kernel_rfl)
        rw [List.take_of_length_le (by rw [List.length_drop]; omega)] at hu54
        refine q_draw [(23, u53), (25, u54)] [(0, u53), (1, u54), (2, .int .i64 n), (7, v50)] ((True) ∧ (∀ w, (Instr.sliceAt 27 vp (some (.int .i64 1)) none none).run Try.prog w = .ok u53 w) ∧ (True) ∧ (∀ w, (Instr.sliceAt 27 vq (some (.int .i64 1)) none none).run Try.prog w = .ok u54 w) ∧ (True) ∧ (True) ∧ True) hA H ⟨trivial, fun w => by exact hu53c rfl .i64 w, trivial, fun w => by exact hu54c rfl .i64 w, trivial, trivial, trivial⟩ fun a w55 hA H hG => ?_
        refine ⟨(u53, u54, lp.drop 1, lq.drop 1, v50, l ++ [(lp.getD (0 : Int).toNat 0)]), ⟨env_sub _ hA, ⟨_, H⟩, ?_⟩, ?_⟩
        · (try dsimp only); exact ⟨hu53, hu54, by simp only [List.length_append, List.length_cons, List.length_nil, List.length_drop]; omega, by rw [mergeL_round (by omega)] at hi; (repeat' split at hi) <;> first | (exfalso; omega) | (rw [← hi]; simp only [List.append_assoc, List.nil_append]; done) | (simp only [List.nil_append] at hi; exact hi)⟩
        · (try dsimp only); simp only [List.length_drop]; omega
  · have hhb11 := (⟨of_decide_eq_false ((oF hb11).1), of_decide_eq_false ((oF hb11).2)⟩ : _ ∧ _)
    refine go_exit 0 ?_
    refine hK5 _ _ ?_
    refine go_seq fun K56 hK56 => ?_
    refine q_reg [] [(6, vr)] ((True) ∧ (True) ∧ True) hA H ⟨trivial, trivial, trivial⟩ fun a w57 hA H hG => ?_
    refine hK56 _ _ ?_
    refine go_ret_ ?_
    refine ret_one 6 vr hA ?_
    have ho := H.give 0 rfl
    rw [mergeL_nil hhb11, List.append_nil] at hi; rw [hi] at ho; exact ⟨_, rfl, ho, H.below⟩

end Go.Proofs.Ytahonnlgkmimlaa

set_option linter.unusedSimpArgs false
set_option linter.unusedVariables false
namespace Go.Proofs.Ytahonnlgkmimlaa
open Go.RowKit

set_option maxRecDepth 100000 in
set_option maxHeartbeats 1000000 in
theorem and_any (va ea vb eb : Value) (A B C D : List Int) (o : Orig) (gA : Rd (· < o.w.heap.size) o.w va A) (gB : Rd (· < o.w.heap.size) o.w ea B) (gC : Rd (· < o.w.heap.size) o.w vb C) (gD : Rd (· < o.w.heap.size) o.w eb D) (hs1 : A.length + C.length ≤ 1000000000) (hs2 : B.length + D.length ≤ 1000000000) :
  Calls Try.prog 42 [.agg #[va, ea], .agg #[vb, eb]].toArray o.w (Giv o (fun S v w' => Rd S w' v ((mergeL A C 2, mergeL B D 2)))) := by
  refine enter Try.f42 16 Try.func42 fun a hA => ?_
  replace hA := env_sub [(0, .agg #[va, ea]), (1, .agg #[vb, eb])] hA
  have H := Fr.start o
  refine go_seq fun K1 hK1 => ?_
  refine region_list ?_
  refine list_at 0 ?_; refine q_box 0 2 29 (.tmp 0) (.agg #[va, ea]) [va, ea] [(1, .agg #[vb, eb])] hA H fun b2 a w3 H hA hG hge_b2 => ?_
  clear hge_b2
  refine list_at 1 ?_; refine q_box 1 3 29 (.tmp 1) (.agg #[vb, eb]) [vb, eb] [(2, .pointer (some ⟨b2, 0, none⟩))] hA H fun b4 a w5 H hA hG hge_b4 => ?_
  clear hge_b4
  refine list_at 2 ?_; refine q_alloc 2 4 29 [(.slice none 0 0), (.slice none 0 0)] [(2, .pointer (some ⟨b2, 0, none⟩)), (3, .pointer (some ⟨b4, 0, none⟩))] hA H fun b6 a w7 H hA hG hge_b6 => ?_
  clear hge_b6
  refine list_end ?_
  refine hK1 _ _ ?_
  refine go_seq fun K8 hK8 => ?_
  have H0 := H
  have hM0 := H0.keeps none (.inl rfl)
  refine region_mix (But w7 none) [0, 1, 2, 3, 4, 5, 6, 7, 8, 9, 10] 12 ?_
  replace H := H.drawn; have hD := But.drew w7 none
  generalize ({ w7 with drawn := w7.drawn + 1 } : World) = w9 at H hD ⊢
  refine m_take (n := 4) [0, 1, 2, 3, 5, 6, 7, 8] #[true, true, true, true, false, true, true, true, true, false, false, false] [(6, va), (8, vb), (11, ea), (13, eb)] [(4, .pointer (some ⟨b6, 0, none⟩)), (6, va), (8, vb), (11, ea), (13, eb)] ((0 < Try.prog.cellsOf 27) ∧ (CellOk (But w7 none) b2 (0 + 0) (va)) ∧ (0 < Try.prog.cellsOf 27) ∧ (CellOk (But w7 none) b4 (0 + 0) (vb)) ∧ (0 < Try.prog.cellsOf 27) ∧ (CellOk (But w7 none) b2 (0 + 1) (ea)) ∧ (0 < Try.prog.cellsOf 27) ∧ (CellOk (But w7 none) b4 (0 + 1) (eb)) ∧ True) hA hD ⟨by decide +kernel, by exact box_cellC (box_atC H0 none 2 rfl (fun e => by cases e)) 0, by decide +kernel, by exact box_cellC (box_atC H0 none 1 rfl (fun e => by cases e)) 0, by decide +kernel, by exact box_cellC (box_atC H0 none 2 rfl (fun e => by cases e)) 1, by decide +kernel, by exact box_cellC (box_atC H0 none 1 rfl (fun e => by cases e)) 1, trivial⟩ fun a hA => ?_
  refine m_one 4 ?_; refine q_call 4 9 78 #[.tmp 6, .tmp 8, .const (.int .i64 2)] #[27, 27, 3] [va, vb, .int .i64 2] (fun S v w' => Rd S w' v (mergeL A C 2)) [(4, .pointer (some ⟨b6, 0, none⟩)), (11, ea), (13, eb)] hA H (by exact merge_any va vb A C 2 H.at ((H.arg gA)) ((H.arg gC)) (by omega)) fun v10 a w11 S hR12 H hA hG => ?_
  replace H := H.ro hR12
  replace hD := hD.below hG
  refine ⟨fun _ => hD, ?_⟩
  refine m_one 9 ?_; refine q_call 9 14 78 #[.tmp 11, .tmp 13, .const (.int .i64 2)] #[27, 27, 3] [ea, eb, .int .i64 2] (fun S v w' => Rd S w' v (mergeL B D 2)) [(4, .pointer (some ⟨b6, 0, none⟩)), (9, v10)] hA H (by exact merge_any ea eb B D 2 H.at ((H.arg gB)) ((H.arg gD)) (by omega)) fun v14 a w15 S hR16 H hA hG => ?_
  replace H := H.ro hR16
  replace hD := hD.below hG
  refine ⟨fun _ => hD, ?_⟩
  refine m_take (n := 1) [10] #[true, true, true, true, true, true, true, true, true, true, true, false] [(15, .agg #[v10, v14])] [(4, .pointer (some ⟨b6, 0, none⟩)), (15, .agg #[v10, v14])] ((∀ w, (Instr.build 29 #[(0, v10), (1, v14)]).run Try.prog w = .ok (.agg #[v10, v14]) w) ∧ True) hA hD ⟨fun w => by obtain ⟨_, _, _, e0⟩ := rd_form (H.get 1 rfl); rw [e0]; obtain ⟨_, _, _, e1⟩ := rd_form (H.get 0 rfl); rw [e1]; kernel_rfl, trivial⟩ fun a hA => ?_
  refine m_one 11 ?_; refine q_store 11 29 (.tmp 4) (.tmp 15) 2 b6 (0) 29 [(.slice none 0 0), (.slice none 0 0)] [v10, v14] [v10, v14] (.agg #[v10, v14]) [(4, .pointer (some ⟨b6, 0, none⟩))] hA H rfl rfl (Nat.le_of_ble_eq_true (by kernel_rfl)) rfl (fun v hv => by simp only [List.mem_cons, List.not_mem_nil, or_false] at hv; rcases hv with rfl | rfl; exact (rd_one (H.get 1 rfl)); exact (rd_one (H.get 0 rfl))) fun a w18 H hA hG => ?_
  replace H : Fr _ _ _ [.ro v14 (mergeL B D 2), .ro v10 (mergeL A C 2), .box b6 29 [v10, v14], .box b4 29 [vb, eb], .box b2 29 [va, ea]] := H
  refine ⟨fun h => absurd h (by decide), ?_⟩
  refine m_end ?_
  refine hK8 _ _ ?_
  refine go_ret_ ?_
  refine ret_cell 4 29 2 b6 29 [v10, v14] #[v10, v14] hA H rfl ?_ (ht := ⟨_, Try.underlying29⟩)
  exact ⟨_, rfl, rd_two (H.giveRo 1 rfl) (H.giveRo 0 rfl), H.below⟩

set_option maxRecDepth 100000 in
set_option maxHeartbeats 1000000 in
theorem or_any (va ea vb eb : Value) (A B C D : List Int) (o : Orig) (gA : Rd (· < o.w.heap.size) o.w va A) (gB : Rd (· < o.w.heap.size) o.w ea B) (gC : Rd (· < o.w.heap.size) o.w vb C) (gD : Rd (· < o.w.heap.size) o.w eb D) (hs1 : A.length + C.length ≤ 1000000000) (hs2 : B.length + D.length ≤ 1000000000) :
  Calls Try.prog 40 [.agg #[va, ea], .agg #[vb, eb]].toArray o.w (Giv o (fun S v w' => Rd S w' v ((mergeL A C 1, mergeL B D 1)))) := by
  refine enter Try.f40 16 Try.func40 fun a hA => ?_
  replace hA := env_sub [(0, .agg #[va, ea]), (1, .agg #[vb, eb])] hA
  have H := Fr.start o
  refine go_seq fun K1 hK1 => ?_
  refine region_list ?_
  refine list_at 0 ?_; refine q_box 0 2 29 (.tmp 0) (.agg #[va, ea]) [va, ea] [(1, .agg #[vb, eb])] hA H fun b2 a w3 H hA hG hge_b2 => ?_
  clear hge_b2
  refine list_at 1 ?_; refine q_box 1 3 29 (.tmp 1) (.agg #[vb, eb]) [vb, eb] [(2, .pointer (some ⟨b2, 0, none⟩))] hA H fun b4 a w5 H hA hG hge_b4 => ?_
  clear hge_b4
  refine list_at 2 ?_; refine q_alloc 2 4 29 [(.slice none 0 0), (.slice none 0 0)] [(2, .pointer (some ⟨b2, 0, none⟩)), (3, .pointer (some ⟨b4, 0, none⟩))] hA H fun b6 a w7 H hA hG hge_b6 => ?_
  clear hge_b6
  refine list_end ?_
  refine hK1 _ _ ?_
  refine go_seq fun K8 hK8 => ?_
  have H0 := H
  have hM0 := H0.keeps none (.inl rfl)
  refine region_mix (But w7 none) [0, 1, 2, 3, 4, 5, 6, 7, 8, 9, 10] 12 ?_
  replace H := H.drawn; have hD := But.drew w7 none
  generalize ({ w7 with drawn := w7.drawn + 1 } : World) = w9 at H hD ⊢
  refine m_take (n := 4) [0, 1, 2, 3, 5, 6, 7, 8] #[true, true, true, true, false, true, true, true, true, false, false, false] [(6, va), (8, vb), (11, ea), (13, eb)] [(4, .pointer (some ⟨b6, 0, none⟩)), (6, va), (8, vb), (11, ea), (13, eb)] ((0 < Try.prog.cellsOf 27) ∧ (CellOk (But w7 none) b2 (0 + 0) (va)) ∧ (0 < Try.prog.cellsOf 27) ∧ (CellOk (But w7 none) b4 (0 + 0) (vb)) ∧ (0 < Try.prog.cellsOf 27) ∧ (CellOk (But w7 none) b2 (0 + 1) (ea)) ∧ (0 < Try.prog.cellsOf 27) ∧ (CellOk (But w7 none) b4 (0 + 1) (eb)) ∧ True) hA hD ⟨by decide +kernel, by exact box_cellC (box_atC H0 none 2 rfl (fun e => by cases e)) 0, by decide +kernel, by exact box_cellC (box_atC H0 none 1 rfl (fun e => by cases e)) 0, by decide +kernel, by exact box_cellC (box_atC H0 none 2 rfl (fun e => by cases e)) 1, by decide +kernel, by exact box_cellC (box_atC H0 none 1 rfl (fun e => by cases e)) 1, trivial⟩ fun a hA => ?_
  refine m_one 4 ?_; refine q_call 4 9 78 #[.tmp 6, .tmp 8, .const (.int .i64 1)] #[27, 27, 3] [va, vb, .int .i64 1] (fun S v w' => Rd S w' v (mergeL A C 1)) [(4, .pointer (some ⟨b6, 0, none⟩)), (11, ea), (13, eb)] hA H (by exact merge_any va vb A C 1 H.at ((H.arg gA)) ((H.arg gC)) (by omega)) fun v10 a w11 S hR12 H hA hG => ?_
  replace H := H.ro hR12
  replace hD := hD.below hG
  refine ⟨fun _ => hD, ?_⟩
  refine m_one 9 ?_; refine q_call 9 14 78 #[.tmp 11, .tmp 13, .const (.int .i64 1)] #[27, 27, 3] [ea, eb, .int .i64 1] (fun S v w' => Rd S w' v (mergeL B D 1)) [(4, .pointer (some ⟨b6, 0, none⟩)), (9, v10)] hA H (by exact merge_any ea eb B D 1 H.at ((H.arg gB)) ((H.arg gD)) (by omega)) fun v14 a w15 S hR16 H hA hG => ?_
  replace H := H.ro hR16
  replace hD := hD.below hG
  refine ⟨fun _ => hD, ?_⟩
  refine m_take (n := 1) [10] #[true, true, true, true, true, true, true, true, true, true, true, false] [(15, .agg #[v10, v14])] [(4, .pointer (some ⟨b6, 0, none⟩)), (15, .agg #[v10, v14])] ((∀ w, (Instr.build 29 #[(0, v10), (1, v14)]).run Try.prog w = .ok (.agg #[v10, v14]) w) ∧ True) hA hD ⟨fun w => by obtain ⟨_, _, _, e0⟩ := rd_form (H.get 1 rfl); rw [e0]; obtain ⟨_, _, _, e1⟩ := rd_form (H.get 0 rfl); rw [e1]; kernel_rfl, trivial⟩ fun a hA => ?_
  refine m_one 11 ?_; refine q_store 11 29 (.tmp 4) (.tmp 15) 2 b6 (0) 29 [(.slice none 0 0), (.slice none 0 0)] [v10, v14] [v10, v14] (.agg #[v10, v14]) [(4, .pointer (some ⟨b6, 0, none⟩))] hA H rfl rfl (Nat.le_of_ble_eq_true (by kernel_rfl)) rfl (fun v hv => by simp only [List.mem_cons, List.not_mem_nil, or_false] at hv; rcases hv with rfl | rfl; exact (rd_one (H.get 1 rfl)); exact (rd_one (H.get 0 rfl))) fun a w18 H hA hG => ?_
  replace H : Fr _ _ _ [.ro v14 (mergeL B D 1), .ro v10 (mergeL A C 1), .box b6 29 [v10, v14], .box b4 29 [vb, eb], .box b2 29 [va, ea]] := H
  refine ⟨fun h => absurd h (by decide), ?_⟩
  refine m_end ?_
  refine hK8 _ _ ?_
  refine go_ret_ ?_
  refine ret_cell 4 29 2 b6 29 [v10, v14] #[v10, v14] hA H rfl ?_ (ht := ⟨_, Try.underlying29⟩)
  exact ⟨_, rfl, rd_two (H.giveRo 1 rfl) (H.giveRo 0 rfl), H.below⟩

end Go.Proofs.Ytahonnlgkmimlaa

set_option linter.unusedSimpArgs false
set_option linter.unusedVariables false
namespace Go.Proofs.Ytahonnlgkmimlaa
open Go.RowKit

set_option maxRecDepth 100000 in
set_option maxHeartbeats 1000000 in
theorem darts_any (n : Int) (ve : Value) (E : List (Int × Int)) (vv vl : Value) (V L : List Int) (x : Int) (o : Orig) (hn : -9223372036854775808 ≤ n ∧ n ≤ 9223372036854775807) (hE : Rd (· < o.w.heap.size) o.w ve E) (hV : Rd (· < o.w.heap.size) o.w vv V) (hL : Rd (· < o.w.heap.size) o.w vl L) :
  Calls Try.prog 22 [.agg #[.int .i64 n, ve], .agg #[vv, vl], .int .i64 x].toArray o.w (Giv o (fun S v w' => Rd S w' v (dartsE n E V L x))) := by
  refine enter Try.f22 50 Try.func22 fun a hA => ?_
  replace hA := env_sub [(0, .agg #[.int .i64 n, ve]), (1, .agg #[vv, vl]), (2, .int .i64 x)] hA
  have H := Fr.start o
  refine go_seq fun K1 hK1 => ?_
  refine region_list ?_
  refine list_at 0 ?_; refine q_box 0 3 24 (.tmp 0) (.agg #[.int .i64 n, ve]) [.int .i64 n, ve] [(1, .agg #[vv, vl]), (2, .int .i64 x)] hA H fun b2 a w3 H hA hG hge_b2 => ?_
  clear hge_b2
  refine list_at 1 ?_; refine q_box 1 4 29 (.tmp 1) (.agg #[vv, vl]) [vv, vl] [(2, .int .i64 x), (3, .pointer (some ⟨b2, 0, none⟩))] hA H fun b4 a w5 H hA hG hge_b4 => ?_
  clear hge_b4
  refine q_list 2 1 [] [(2, .int .i64 x), (3, .pointer (some ⟨b2, 0, none⟩)), (4, .pointer (some ⟨b4, 0, none⟩))] ((True) ∧ True) hA H ⟨trivial, trivial⟩ fun a w6 hA H hG => ?_
  refine list_end ?_
  refine hK1 _ _ ?_
  refine go_seq fun K7 hK7 => ?_
  refine go_seq fun K8 hK8 => ?_
  refine q_reg [(10, .agg #[.int .i64 n, ve]), (11, .agg #[vv, vl]), (12, .int .i64 (partE n E V L))] [(2, .int .i64 x), (3, .pointer (some ⟨b2, 0, none⟩)), (4, .pointer (some ⟨b4, 0, none⟩)), (13, .bool (!decide (partE n E V L = 0)))] (((Try.prog.info? 24).isSome = true ∧ RowOk (On w6) b2 (0) (Try.prog.cellsOf 24) #[.int .i64 n, ve]) ∧ ((Try.prog.info? 29).isSome = true ∧ RowOk (On w6) b4 (0) (Try.prog.cellsOf 29) #[vv, vl]) ∧ (Callable Try.prog 31 ∧ CallOk Try.prog (On w6) 31 [.agg #[.int .i64 n, ve], .agg #[vv, vl]].toArray (.int .i64 (partE n E V L))) ∧ (True) ∧ True) hA H ⟨⟨by kernel_rfl, by exact box_row H 1 rfl 0 2⟩, ⟨by kernel_rfl, by exact box_row H 0 rfl 0 2⟩, ⟨callable_of, callOk_of fun w hw => by exact rightPart_any n ve E vv vl V L w (by omega) (((H.on hw).arg hE)) (((H.on hw).arg hV)) (((H.on hw).arg hL))⟩, trivial, trivial⟩ fun a w9 hA H hG => ?_
  refine hK8 _ _ ?_
  refine go_cond hA (.tmp 13) (!decide (partE n E V L = 0)) (fun hb10 => ?_) (fun hb10 => ?_)
  · have hhb10 := of_decide_eq_false (nT hb10)
    refine go_seq fun K11 hK11 => ?_
    refine q_reg [] [(6, (.slice none 0 0))] ((True) ∧ True) hA H ⟨trivial, trivial⟩ fun a w12 hA H hG => ?_
    refine hK11 _ _ ?_
    refine go_ret_ ?_
    refine ret_one 6 (.slice none 0 0) hA ?_
    exact ⟨_, rfl, by unfold dartsE; rw [if_pos hhb10]; exact rd_nil, H.below⟩
  · have hhb10 := of_decide_eq_true (nF hb10)
    refine go_skip ?_
    refine hK7 _ _ ?_
    refine go_seq fun K13 hK13 => ?_
    obtain ⟨hp1, hp2, hp3, hp4⟩ := partE_0 (n := n) (E := E) (V := V) (L := L) (by omega)
    have hr0 := rightE_0 hp1
    have hl9 := rises_len hp3 (by omega)
    have hv9 := rises_len hp2 (by omega)
    refine q_reg [] [(2, .int .i64 x), (3, .pointer (some ⟨b2, 0, none⟩)), (4, .pointer (some ⟨b4, 0, none⟩)), (7, (.slice none 0 0))] ((True) ∧ True) hA H ⟨trivial, trivial⟩ fun a w14 hA H hG => ?_
    refine hK13 _ _ ?_
    refine go_seq fun K15 hK15 => ?_
    refine go_seq fun K16 hK16 => ?_
    refine q_reg [(15, vl), (16, .int .i64 (L.length : Int))] [(2, .int .i64 x), (3, .pointer (some ⟨b2, 0, none⟩)), (7, (.slice none 0 0)), (15, vl), (16, .int .i64 (L.length : Int)), (17, .int .i64 0)] ((0 < Try.prog.cellsOf 27) ∧ (CellOk (On w14) b4 (0 + 1) (vl)) ∧ (LenOk vl (L.length : Int)) ∧ (True) ∧ True) hA H ⟨by decide +kernel, by exact box_cell H 0 rfl 1, by exact len_ok (H.arg hL), trivial, trivial⟩ fun a w17 hA H hG => ?_
    refine hK16 _ _ ?_
    refine go_block 0 ?_
    replace H := H.newRow (α := Int) 3
    refine go_loop_ (Int × Value × List Int) (fun x_ a W => (fun (i : Int) (vr : Value) (l : List Int) => EnvOk 50 a (keepEnv [(2, .int .i64 x), (3, .pointer (some ⟨b2, 0, none⟩)), (7, vr), (15, vl), (16, .int .i64 (L.length : Int)), (17, .int .i64 i)]) ∧ (∃ S, Fr o W S [.row 3 vr l, .box b4 29 [vv, vl], .box b2 24 [.int .i64 n, ve]]) ∧ 0 ≤ i ∧ (l.length : Int) ≤ 2 * i ∧ l ++ dartsL E (L.drop i.toNat) x = dartsL E L x) x_.1 x_.2.1 x_.2.2) (fun x_ => (fun (i : Int) (vr : Value) (l : List Int) => ((L.length : Int) - i).toNat) x_.1 x_.2.1 x_.2.2) (0, .slice none 0 0, []) ?_ (fun x_ a w19 hI => ?_)
    · (try dsimp only); exact ⟨env_sub _ hA, ⟨_, H⟩, by omega, by simp, by simp⟩
    obtain ⟨i, vr, l⟩ := x_
    obtain ⟨hA, ⟨S, H⟩, h0, h1, hi⟩ := hI
    try dsimp only at h0 h1 hi
    refine go_seq fun K20 hK20 => ?_
    refine q_reg [] [(2, .int .i64 x), (3, .pointer (some ⟨b2, 0, none⟩)), (7, vr), (15, vl), (16, .int .i64 (L.length : Int)), (17, .int .i64 i), (18, .bool (decide (i < (L.length : Int))))] ((True) ∧ True) hA H ⟨trivial, trivial⟩ fun a w21 hA H hG => ?_
    refine hK20 _ _ ?_
    refine go_seq fun K22 hK22 => ?_
    refine go_cond hA (.tmp 18) (decide (i < (L.length : Int))) (fun hb23 => ?_) (fun hb23 => ?_)
    · have hhb23 := of_decide_eq_true hb23
      refine go_skip ?_
      refine hK22 _ _ ?_
      refine go_seq fun K24 hK24 => ?_
      refine go_block 1 ?_
      refine go_seq fun K25 hK25 => ?_
      have hx := hp3 i.toNat (by omega)
      refine q_reg [(20, .int .i64 (L.getD i.toNat 0))] [(2, .int .i64 x), (3, .pointer (some ⟨b2, 0, none⟩)), (7, vr), (9, .int .i64 (L.getD i.toNat 0)), (15, vl), (16, .int .i64 (L.length : Int)), (17, .int .i64 i)] (((Try.prog.info? 3).isSome = true ∧ IdxOk vl i) ∧ (CellOk (On w21) (hdB vl) (hdO vl + i.toNat * 1) (.int .i64 (L.getD i.toNat 0))) ∧ (True) ∧ True) hA H ⟨⟨by kernel_rfl, by exact idx_ok (H.arg hL) (by omega) (by omega)⟩, by exact cell_flat (i := i) (H.arg hL) (by omega) (by omega) 0 0, trivial, trivial⟩ fun a w26 hA H hG => ?_
      refine hK25 _ _ ?_
      refine go_seq fun K27 hK27 => ?_
      refine go_seq fun K28 hK28 => ?_
      refine q_reg [(22, ve), (26, .int .i64 ((E.getD (L.getD i.toNat 0).toNat (0, 0)).1))] [(2, .int .i64 x), (3, .pointer (some ⟨b2, 0, none⟩)), (7, vr), (9, .int .i64 (L.getD i.toNat 0)), (15, vl), (16, .int .i64 (L.length : Int)), (17, .int .i64 i), (28, .bool (decide ((E.getD (L.getD i.toNat 0).toNat (0, 0)).1 = x)))] ((0 < Try.prog.cellsOf 22) ∧ (CellOk (On w26) b2 (0 + 1) (ve)) ∧ (True) ∧ ((Try.prog.info? 99).isSome = true ∧ IdxOk ve (L.getD i.toNat 0)) ∧ (0 < Try.prog.cellsOf 3) ∧ (CellOk (On w26) (hdB ve) (hdO ve + (L.getD i.toNat 0).toNat * 2 + 0) (.int .i64 ((E.getD (L.getD i.toNat 0).toNat (0, 0)).1))) ∧ (True) ∧ (True) ∧ True) hA H ⟨by decide +kernel, by exact box_cell H 2 rfl 1, trivial, ⟨by kernel_rfl, by exact idx_ok (H.arg hE) (by omega) (by omega)⟩, by decide +kernel, by exact cell_flat (i := (L.getD i.toNat 0)) (H.arg hE) (by omega) (by omega) (0, 0) 0, trivial, trivial, trivial⟩ fun a w29 hA H hG => ?_
      refine hK28 _ _ ?_
      refine go_cond hA (.tmp 28) (decide ((E.getD (L.getD i.toNat 0).toNat (0, 0)).1 = x)) (fun hb30 => ?_) (fun hb30 => ?_)
      · have hhb30 := of_decide_eq_true hb30
        refine region_list ?_
        refine q_list 0 3 [] [(2, .int .i64 x), (3, .pointer (some ⟨b2, 0, none⟩)), (9, .int .i64 (L.getD i.toNat 0)), (15, vl), (16, .int .i64 (L.length : Int)), (17, .int .i64 i), (29, vr), (31, .int .i64 (2 * (L.getD i.toNat 0)))] ((True) ∧ (True) ∧ (InR .i64 (2 * (L.getD i.toNat 0))) ∧ True) hA H ⟨trivial, trivial, ⟨by omega, by omega⟩, trivial⟩ fun a w31 hA H hG => ?_
        refine list_at 3 ?_; refine q_lit 3 32 27 1 #[(0, .tmp 31)] 3 [(0, .int .i64 (2 * (L.getD i.toNat 0)))] [.int .i64 (2 * (L.getD i.toNat 0))] [(2, .int .i64 x), (3, .pointer (some ⟨b2, 0, none⟩)), (9, .int .i64 (L.getD i.toNat 0)), (15, vl), (16, .int .i64 (L.length : Int)), (17, .int .i64 i), (29, vr)] hA H fun b32 a w33 H hA hG hge_b32 => ?_
        clear hge_b32
        refine list_at 4 ?_; refine q_push 4 33 (.tmp 29) (.tmp 32) 1 0 b32 1 1 vr l [2 * (L.getD i.toNat 0)] [.int .i64 (2 * (L.getD i.toNat 0))] [(2, .int .i64 x), (3, .pointer (some ⟨b2, 0, none⟩)), (9, .int .i64 (L.getD i.toNat 0)), (15, vl), (16, .int .i64 (L.length : Int)), (17, .int .i64 i)] hA H Try.E27 rfl rfl (by exact (RowRd.single (α := Int) rfl)) rfl (by simp only [List.length_cons, List.length_nil, List.length_append]; omega) (by decide) fun v34 a w35 H hA hG => ?_
        replace H : Fr _ _ _ [.row 3 v34 (l ++ [2 * (L.getD i.toNat 0)]), .box b4 29 [vv, vl], .box b2 24 [.int .i64 n, ve]] := H.drop 0
        refine q_list 5 1 [] [(2, .int .i64 x), (3, .pointer (some ⟨b2, 0, none⟩)), (7, v34), (9, .int .i64 (L.getD i.toNat 0)), (15, vl), (16, .int .i64 (L.length : Int)), (17, .int .i64 i)] ((True) ∧ True) hA H ⟨trivial, trivial⟩ fun a w36 hA H hG => ?_
        refine list_end ?_
        refine hK27 _ _ ?_
        refine go_seq fun K37 hK37 => ?_
        refine q_reg [(35, ve), (39, .int .i64 ((E.getD (L.getD i.toNat 0).toNat (0, 0)).2))] [(2, .int .i64 x), (3, .pointer (some ⟨b2, 0, none⟩)), (7, v34), (9, .int .i64 (L.getD i.toNat 0)), (15, vl), (16, .int .i64 (L.length : Int)), (17, .int .i64 i), (41, .bool (decide ((E.getD (L.getD i.toNat 0).toNat (0, 0)).2 = x)))] ((0 < Try.prog.cellsOf 22) ∧ (CellOk (On w36) b2 (0 + 1) (ve)) ∧ (True) ∧ ((Try.prog.info? 99).isSome = true ∧ IdxOk ve (L.getD i.toNat 0)) ∧ (0 < Try.prog.cellsOf 3) ∧ (CellOk (On w36) (hdB ve) (hdO ve + (L.getD i.toNat 0).toNat * 2 + 1) (.int .i64 ((E.getD (L.getD i.toNat 0).toNat (0, 0)).2))) ∧ (True) ∧ (True) ∧ True) hA H ⟨by decide +kernel, by exact box_cell H 2 rfl 1, trivial, ⟨by kernel_rfl, by exact idx_ok (H.arg hE) (by omega) (by omega)⟩, by decide +kernel, by exact cell_flat (i := (L.getD i.toNat 0)) (H.arg hE) (by omega) (by omega) (0, 0) 1, trivial, trivial, trivial⟩ fun a w38 hA H hG => ?_
        refine hK37 _ _ ?_
        refine go_cond hA (.tmp 41) (decide ((E.getD (L.getD i.toNat 0).toNat (0, 0)).2 = x)) (fun hb39 => ?_) (fun hb39 => ?_)
        · have hhb39 := of_decide_eq_true hb39
          refine region_list ?_
          refine q_list 0 4 [] [(2, .int .i64 x), (3, .pointer (some ⟨b2, 0, none⟩)), (15, vl), (16, .int .i64 (L.length : Int)), (17, .int .i64 i), (42, v34), (45, .int .i64 ((2 * (L.getD i.toNat 0)) + 1))] ((True) ∧ (True) ∧ (InR .i64 (2 * (L.getD i.toNat 0))) ∧ (InR .i64 ((2 * (L.getD i.toNat 0)) + 1)) ∧ True) hA H ⟨trivial, trivial, ⟨by omega, by omega⟩, ⟨by omega, by omega⟩, trivial⟩ fun a w40 hA H hG => ?_
          refine list_at 4 ?_; refine q_lit 4 46 27 1 #[(0, .tmp 45)] 3 [(0, .int .i64 ((2 * (L.getD i.toNat 0)) + 1))] [.int .i64 ((2 * (L.getD i.toNat 0)) + 1)] [(2, .int .i64 x), (3, .pointer (some ⟨b2, 0, none⟩)), (15, vl), (16, .int .i64 (L.length : Int)), (17, .int .i64 i), (42, v34)] hA H fun b41 a w42 H hA hG hge_b41 => ?_
          clear hge_b41
          refine list_at 5 ?_; refine q_push 5 47 (.tmp 42) (.tmp 46) 1 0 b41 1 1 v34 (l ++ [2 * (L.getD i.toNat 0)]) [(2 * (L.getD i.toNat 0)) + 1] [.int .i64 ((2 * (L.getD i.toNat 0)) + 1)] [(2, .int .i64 x), (3, .pointer (some ⟨b2, 0, none⟩)), (15, vl), (16, .int .i64 (L.length : Int)), (17, .int .i64 i)] hA H Try.E27 rfl rfl (by exact (RowRd.single (α := Int) rfl)) rfl (by simp only [List.length_cons, List.length_nil, List.length_append]; omega) (by decide) fun v43 a w44 H hA hG => ?_
          replace H : Fr _ _ _ [.row 3 v43 ((l ++ [2 * (L.getD i.toNat 0)]) ++ [(2 * (L.getD i.toNat 0)) + 1]), .box b4 29 [vv, vl], .box b2 24 [.int .i64 n, ve]] := H.drop 0
          refine q_list 6 1 [] [(2, .int .i64 x), (3, .pointer (some ⟨b2, 0, none⟩)), (7, v43), (15, vl), (16, .int .i64 (L.length : Int)), (17, .int .i64 i)] ((True) ∧ True) hA H ⟨trivial, trivial⟩ fun a w45 hA H hG => ?_
          refine list_end ?_
          refine hK24 _ _ ?_
          refine q_reg [] [(2, .int .i64 x), (3, .pointer (some ⟨b2, 0, none⟩)), (7, v43), (15, vl), (16, .int .i64 (L.length : Int)), (17, .int .i64 (i + 1))] ((InR .i64 (i + 1)) ∧ (True) ∧ True) hA H ⟨⟨by omega, by omega⟩, trivial, trivial⟩ fun a w46 hA H hG => ?_
          refine ⟨(i + 1, v43, (l ++ [2 * (L.getD i.toNat 0)]) ++ [(2 * (L.getD i.toNat 0)) + 1]), ⟨env_sub _ hA, ⟨_, H⟩, ?_⟩, ?_⟩
          · (try dsimp only); refine ⟨by omega, by (try simp only [List.length_append, List.length_cons, List.length_nil]); omega, by rw [dartsL_round h0 (by omega), dartsFrom_0] at hi; simp only [hhb30, hhb39, if_true, if_false, List.nil_append, List.append_nil] at hi; (try simp only [List.append_assoc] at hi ⊢); exact hi⟩
          · (try dsimp only); omega
        · have hhb39 := of_decide_eq_false hb39
          refine go_skip ?_
          refine hK24 _ _ ?_
          refine q_reg [] [(2, .int .i64 x), (3, .pointer (some ⟨b2, 0, none⟩)), (7, v34), (15, vl), (16, .int .i64 (L.length : Int)), (17, .int .i64 (i + 1))] ((InR .i64 (i + 1)) ∧ (True) ∧ True) hA H ⟨⟨by omega, by omega⟩, trivial, trivial⟩ fun a w47 hA H hG => ?_
          refine ⟨(i + 1, v34, l ++ [2 * (L.getD i.toNat 0)]), ⟨env_sub _ hA, ⟨_, H⟩, ?_⟩, ?_⟩
          · (try dsimp only); refine ⟨by omega, by (try simp only [List.length_append, List.length_cons, List.length_nil]); omega, by rw [dartsL_round h0 (by omega), dartsFrom_0] at hi; simp only [hhb30, hhb39, if_true, if_false, List.nil_append, List.append_nil] at hi; (try simp only [List.append_assoc] at hi ⊢); exact hi⟩
          · (try dsimp only); omega
      · have hhb30 := of_decide_eq_false hb30
        refine go_skip ?_
        refine hK27 _ _ ?_
        refine go_seq fun K48 hK48 => ?_
        refine q_reg [(35, ve), (39, .int .i64 ((E.getD (L.getD i.toNat 0).toNat (0, 0)).2))] [(2, .int .i64 x), (3, .pointer (some ⟨b2, 0, none⟩)), (7, vr), (9, .int .i64 (L.getD i.toNat 0)), (15, vl), (16, .int .i64 (L.length : Int)), (17, .int .i64 i), (41, .bool (decide ((E.getD (L.getD i.toNat 0).toNat (0, 0)).2 = x)))] ((0 < Try.prog.cellsOf 22) ∧ (CellOk (On w29) b2 (0 + 1) (ve)) ∧ (True) ∧ ((Try.prog.info? 99).isSome = true ∧ IdxOk ve (L.getD i.toNat 0)) ∧ (0 < Try.prog.cellsOf 3) ∧ (CellOk (On w29) (hdB ve) (hdO ve + (L.getD i.toNat 0).toNat * 2 + 1) (.int .i64 ((E.getD (L.getD i.toNat 0).toNat (0, 0)).2))) ∧ (True) ∧ (True) ∧ True) hA H ⟨by decide +kernel, by exact box_cell H 2 rfl 1, trivial, ⟨by kernel_rfl, by exact idx_ok (H.arg hE) (by omega) (by omega)⟩, by decide +kernel, by exact cell_flat (i := (L.getD i.toNat 0)) (H.arg hE) (by omega) (by omega) (0, 0) 1, trivial, trivial, trivial⟩ fun a w49 hA H hG => ?_
        refine hK48 _ _ ?_
        refine go_cond hA (.tmp 41) (decide ((E.getD (L.getD i.toNat 0).toNat (0, 0)).2 = x)) (fun hb50 => ?_) (fun hb50 => ?_)
        · have hhb50 := of_decide_eq_true hb50
          refine region_list ?_
          refine q_list 0 4 [] [(2, .int .i64 x), (3, .pointer (some ⟨b2, 0, none⟩)), (15, vl), (16, .int .i64 (L.length : Int)), (17, .int .i64 i), (42, vr), (45, .int .i64 ((2 * (L.getD i.toNat 0)) + 1))] ((True) ∧ (True) ∧ (InR .i64 (2 * (L.getD i.toNat 0))) ∧ (InR .i64 ((2 * (L.getD i.toNat 0)) + 1)) ∧ True) hA H ⟨trivial, trivial, ⟨by omega, by omega⟩, ⟨by omega, by omega⟩, trivial⟩ fun a w51 hA H hG => ?_
          refine list_at 4 ?_; refine q_lit 4 46 27 1 #[(0, .tmp 45)] 3 [(0, .int .i64 ((2 * (L.getD i.toNat 0)) + 1))] [.int .i64 ((2 * (L.getD i.toNat 0)) + 1)] [(2, .int .i64 x), (3, .pointer (some ⟨b2, 0, none⟩)), (15, vl), (16, .int .i64 (L.length : Int)), (17, .int .i64 i), (42, vr)] hA H fun b52 a w53 H hA hG hge_b52 => ?_
          clear hge_b52
          refine list_at 5 ?_; refine q_push 5 47 (.tmp 42) (.tmp 46) 1 0 b52 1 1 vr l [(2 * (L.getD i.toNat 0)) + 1] [.int .i64 ((2 * (L.getD i.toNat 0)) + 1)] [(2, .int .i64 x), (3, .pointer (some ⟨b2, 0, none⟩)), (15, vl), (16, .int .i64 (L.length : Int)), (17, .int .i64 i)] hA H Try.E27 rfl rfl (by exact (RowRd.single (α := Int) rfl)) rfl (by simp only [List.length_cons, List.length_nil, List.length_append]; omega) (by decide) fun v54 a w55 H hA hG => ?_
          replace H : Fr _ _ _ [.row 3 v54 (l ++ [(2 * (L.getD i.toNat 0)) + 1]), .box b4 29 [vv, vl], .box b2 24 [.int .i64 n, ve]] := H.drop 0
          refine q_list 6 1 [] [(2, .int .i64 x), (3, .pointer (some ⟨b2, 0, none⟩)), (7, v54), (15, vl), (16, .int .i64 (L.length : Int)), (17, .int .i64 i)] ((True) ∧ True) hA H ⟨trivial, trivial⟩ fun a w56 hA H hG => ?_
          refine list_end ?_
          refine hK24 _ _ ?_
          refine q_reg [] [(2, .int .i64 x), (3, .pointer (some ⟨b2, 0, none⟩)), (7, v54), (15, vl), (16, .int .i64 (L.length : Int)), (17, .int .i64 (i + 1))] ((InR .i64 (i + 1)) ∧ (True) ∧ True) hA H ⟨⟨by omega, by omega⟩, trivial, trivial⟩ fun a w57 hA H hG => ?_
          refine ⟨(i + 1, v54, l ++ [(2 * (L.getD i.toNat 0)) + 1]), ⟨env_sub _ hA, ⟨_, H⟩, ?_⟩, ?_⟩
          · (try dsimp only); refine ⟨by omega, by (try simp only [List.length_append, List.length_cons, List.length_nil]); omega, by rw [dartsL_round h0 (by omega), dartsFrom_0] at hi; simp only [hhb30, hhb50, if_true, if_false, List.nil_append, List.append_nil] at hi; (try simp only [List.append_assoc] at hi ⊢); exact hi⟩
          · (try dsimp only); omega
        · have hhb50 := of_decide_eq_false hb50
          refine go_skip ?_
          refine hK24 _ _ ?_
          refine q_reg [] [(2, .int .i64 x), (3, .pointer (some ⟨b2, 0, none⟩)), (7, vr), (15, vl), (16, .int .i64 (L.length : Int)), (17, .int .i64 (i + 1))] ((InR .i64 (i + 1)) ∧ (True) ∧ True) hA H ⟨⟨by omega, by omega⟩, trivial, trivial⟩ fun a w58 hA H hG => ?_
          refine ⟨(i + 1, vr, l), ⟨env_sub _ hA, ⟨_, H⟩, ?_⟩, ?_⟩
          · (try dsimp only); refine ⟨by omega, by (try simp only [List.length_append, List.length_cons, List.length_nil]); omega, by rw [dartsL_round h0 (by omega), dartsFrom_0] at hi; simp only [hhb30, hhb50, if_true, if_false, List.nil_append, List.append_nil] at hi; (try simp only [List.append_assoc] at hi ⊢); exact hi⟩
          · (try dsimp only); omega
    · have hhb23 := of_decide_eq_false hb23
      refine go_exit 0 ?_
      refine hK15 _ _ ?_
      refine go_seq fun K59 hK59 => ?_
      refine q_reg [] [(6, vr)] ((True) ∧ (True) ∧ True) hA H ⟨trivial, trivial, trivial⟩ fun a w60 hA H hG => ?_
      refine hK59 _ _ ?_
      refine go_ret_ ?_
      refine ret_one 6 vr hA ?_
      have ho := (H.give 0 rfl)
      rw [dartsL_end (by omega), List.append_nil] at hi; exact ⟨_, rfl, by unfold dartsE; rw [if_neg (by omega), ← hi]; exact ho, H.below⟩

set_option maxRecDepth 100000 in
set_option maxHeartbeats 1000000 in
theorem whole_any (n : Int) (ve : Value) (E : List (Int × Int)) (o : Orig) (hn : -9223372036854775808 ≤ n ∧ n ≤ 9223372036854775807) (hE : Rd (· < o.w.heap.size) o.w ve E) :
  Calls Try.prog 23 [.agg #[.int .i64 n, ve]].toArray o.w (Giv o (fun S v w' => Rd S w' v (wholeE n E))) := by
  refine enter Try.f23 36 Try.func23 fun a hA => ?_
  replace hA := env_sub [(0, .agg #[.int .i64 n, ve])] hA
  have H := Fr.start o
  refine go_seq fun K1 hK1 => ?_
  refine region_list ?_
  refine list_at 0 ?_; refine q_box 0 1 24 (.tmp 0) (.agg #[.int .i64 n, ve]) [.int .i64 n, ve] [] hA H fun b2 a w3 H hA hG hge_b2 => ?_
  clear hge_b2
  refine list_at 1 ?_; refine q_alloc 1 2 29 [(.slice none 0 0), (.slice none 0 0)] [(1, .pointer (some ⟨b2, 0, none⟩))] hA H fun b4 a w5 H hA hG hge_b4 => ?_
  clear hge_b4
  refine list_end ?_
  refine hK1 _ _ ?_
  refine go_seq fun K6 hK6 => ?_
  refine region_list ?_
  refine list_at 0 ?_; refine q_alloc 0 3 29 [(.slice none 0 0), (.slice none 0 0)] [(1, .pointer (some ⟨b2, 0, none⟩)), (2, .pointer (some ⟨b4, 0, none⟩))] hA H fun b7 a w8 H hA hG hge_b7 => ?_
  clear hge_b7
  replace H := H.newRow (α := Int) 3
  replace H := H.newRow (α := Int) 3
  refine list_end ?_
  refine hK6 _ _ ?_
  refine go_seq fun K9 hK9 => ?_
  refine go_seq fun K10 hK10 => ?_
  refine q_reg [(6, .agg #[.int .i64 n, ve]), (7, .int .i64 (rightE n E))] [(1, .pointer (some ⟨b2, 0, none⟩)), (2, .pointer (some ⟨b4, 0, none⟩)), (3, .pointer (some ⟨b7, 0, none⟩)), (8, .bool (!decide (rightE n E = 0)))] (((Try.prog.info? 24).isSome = true ∧ RowOk (On w8) b2 (0) (Try.prog.cellsOf 24) #[.int .i64 n, ve]) ∧ (Callable Try.prog 20 ∧ CallOk Try.prog (On w8) 20 [.agg #[.int .i64 n, ve]].toArray (.int .i64 (rightE n E))) ∧ (True) ∧ True) hA H ⟨⟨by kernel_rfl, by exact box_row H 4 rfl 0 2⟩, ⟨callable_of, callOk_of fun w hw => by exact right_any n ve E w (by omega) (((H.on hw).arg hE))⟩, trivial, trivial⟩ fun a w11 hA H hG => ?_
  refine hK10 _ _ ?_
  refine go_cond hA (.tmp 8) (!decide (rightE n E = 0)) (fun hb12 => ?_) (fun hb12 => ?_)
  · have hhb12 := of_decide_eq_false (nT hb12)
    refine go_seq fun K13 hK13 => ?_
    refine region_list ?_
    refine q_list 0 1 [(9, .agg #[(.slice none 0 0), (.slice none 0 0)])] [(2, .pointer (some ⟨b4, 0, none⟩)), (9, .agg #[(.slice none 0 0), (.slice none 0 0)])] (((Try.prog.info? 29).isSome = true ∧ RowOk (On w11) b7 (0) (Try.prog.cellsOf 29) #[(.slice none 0 0), (.slice none 0 0)]) ∧ True) hA H ⟨⟨by kernel_rfl, by exact box_row H 2 rfl 0 2⟩, trivial⟩ fun a w14 hA H hG => ?_
    refine list_at 1 ?_; refine q_store 1 29 (.tmp 2) (.tmp 9) 3 b4 (0) 29 [(.slice none 0 0), (.slice none 0 0)] [(.slice none 0 0), (.slice none 0 0)] [(.slice none 0 0), (.slice none 0 0)] (.agg #[(.slice none 0 0), (.slice none 0 0)]) [(2, .pointer (some ⟨b4, 0, none⟩))] hA H rfl rfl (Nat.le_of_ble_eq_true (by kernel_rfl)) rfl (fun v hv => by simp only [List.mem_cons, List.not_mem_nil, or_false] at hv; rcases hv with rfl | rfl; exact (rd_one (H.out 1 rfl)); exact (rd_one (H.out 0 rfl))) fun a w15 H hA hG => ?_
    replace H : Fr _ _ _ [.row 3 (.slice none 0 0) ([] : List Int), .row 3 (.slice none 0 0) ([] : List Int), .box b7 29 [(.slice none 0 0), (.slice none 0 0)], .box b4 29 [(.slice none 0 0), (.slice none 0 0)], .box b2 24 [.int .i64 n, ve]] := H
    refine list_end ?_
    refine hK13 _ _ ?_
    refine go_ret_ ?_
    refine ret_cell 2 29 3 b4 29 [(.slice none 0 0), (.slice none 0 0)] #[(.slice none 0 0), (.slice none 0 0)] hA H rfl ?_ (ht := ⟨_, Try.underlying29⟩)
    exact ⟨_, rfl, by unfold wholeE; rw [if_pos hhb12]; exact rd_two (H.give 1 rfl) (H.give 0 rfl), H.below⟩
  · have hhb12 := of_decide_eq_true (nF hb12)
    refine go_skip ?_
    refine hK9 _ _ ?_
    refine go_seq fun K16 hK16 => ?_
    refine go_seq fun K17 hK17 => ?_
    have hr0 := rightE_0 (n := n) (E := E) (by omega)
    refine q_reg [(11, .int .i64 n)] [(1, .pointer (some ⟨b2, 0, none⟩)), (2, .pointer (some ⟨b4, 0, none⟩)), (3, .pointer (some ⟨b7, 0, none⟩)), (11, .int .i64 n), (12, .int .i64 0)] ((0 < Try.prog.cellsOf 3) ∧ (CellOk (On w11) b2 (0 + 0) (.int .i64 n)) ∧ (True) ∧ True) hA H ⟨by decide +kernel, by exact box_cell H 4 rfl 0, trivial, trivial⟩ fun a w18 hA H hG => ?_
    refine hK17 _ _ ?_
    refine go_block 0 ?_
    refine go_loop_ (Int × Value × List Int) (fun x_ a W => (fun (i : Int) (vr : Value) (l : List Int) => EnvOk 36 a (keepEnv [(1, .pointer (some ⟨b2, 0, none⟩)), (2, .pointer (some ⟨b4, 0, none⟩)), (3, .pointer (some ⟨b7, 0, none⟩)), (11, .int .i64 n), (12, .int .i64 i)]) ∧ (∃ S, Fr o W S [.row 3 (.slice none 0 0) ([] : List Int), .row 3 vr l, .box b7 29 [vr, (.slice none 0 0)], .box b4 29 [(.slice none 0 0), (.slice none 0 0)], .box b2 24 [.int .i64 n, ve]]) ∧ 0 ≤ i ∧ (i ≤ n ∨ i = 0) ∧ (l.length : Int) ≤ i ∧ l = upto i) x_.1 x_.2.1 x_.2.2) (fun x_ => (fun (i : Int) (vr : Value) (l : List Int) => (n - i).toNat) x_.1 x_.2.1 x_.2.2) (0, (.slice none 0 0), ([] : List Int)) ?_ (fun x_ a w20 hI => ?_)
    · (try dsimp only); exact ⟨env_sub _ hA, ⟨_, H⟩, by omega, by omega, by simp, rfl⟩
    obtain ⟨i, vr, l⟩ := x_
    obtain ⟨hA, ⟨S, H⟩, h0, h0a, h1, hi⟩ := hI
    try dsimp only at h0 h0a h1 hi
    refine go_seq fun K21 hK21 => ?_
    refine q_reg [] [(1, .pointer (some ⟨b2, 0, none⟩)), (2, .pointer (some ⟨b4, 0, none⟩)), (3, .pointer (some ⟨b7, 0, none⟩)), (11, .int .i64 n), (12, .int .i64 i), (13, .bool (decide (i < n)))] ((True) ∧ True) hA H ⟨trivial, trivial⟩ fun a w22 hA H hG => ?_
    refine hK21 _ _ ?_
    refine go_seq fun K23 hK23 => ?_
    refine go_cond hA (.tmp 13) (decide (i < n)) (fun hb24 => ?_) (fun hb24 => ?_)
    · have hhb24 := of_decide_eq_true hb24
      refine go_skip ?_
      refine hK23 _ _ ?_
      refine go_seq fun K25 hK25 => ?_
      refine go_block 1 ?_
      refine go_seq fun K26 hK26 => ?_
      refine q_reg [] [(1, .pointer (some ⟨b2, 0, none⟩)), (2, .pointer (some ⟨b4, 0, none⟩)), (3, .pointer (some ⟨b7, 0, none⟩)), (4, .int .i64 i), (11, .int .i64 n), (12, .int .i64 i)] ((True) ∧ (True) ∧ True) hA H ⟨trivial, trivial, trivial⟩ fun a w27 hA H hG => ?_
      refine hK26 _ _ ?_
      refine region_list ?_
      refine q_list 0 3 [(16, vr)] [(1, .pointer (some ⟨b2, 0, none⟩)), (2, .pointer (some ⟨b4, 0, none⟩)), (3, .pointer (some ⟨b7, 0, none⟩)), (11, .int .i64 n), (12, .int .i64 i), (16, vr), (17, .int .i64 i)] ((0 < Try.prog.cellsOf 27) ∧ (CellOk (On w27) b7 (0 + 0) (vr)) ∧ (True) ∧ True) hA H ⟨by decide +kernel, by exact box_cell H 2 rfl 0, trivial, trivial⟩ fun a w28 hA H hG => ?_
      refine list_at 3 ?_; refine q_lit 3 18 27 1 #[(0, .tmp 17)] 3 [(0, .int .i64 i)] [.int .i64 i] [(1, .pointer (some ⟨b2, 0, none⟩)), (2, .pointer (some ⟨b4, 0, none⟩)), (3, .pointer (some ⟨b7, 0, none⟩)), (11, .int .i64 n), (12, .int .i64 i), (16, vr)] hA H fun b29 a w30 H hA hG hge_b29 => ?_
      clear hge_b29
      refine list_at 4 ?_; refine q_push 4 19 (.tmp 16) (.tmp 18) 2 0 b29 1 1 vr l [i] [.int .i64 i] [(1, .pointer (some ⟨b2, 0, none⟩)), (2, .pointer (some ⟨b4, 0, none⟩)), (3, .pointer (some ⟨b7, 0, none⟩)), (11, .int .i64 n), (12, .int .i64 i)] hA H Try.E27 rfl rfl (by exact (RowRd.single (α := Int) rfl)) rfl (by simp only [List.length_cons, List.length_nil, List.length_append]; omega) (by decide) fun v31 a w32 H hA hG => ?_
      replace H : Fr _ _ _ [.row 3 (.slice none 0 0) ([] : List Int), .row 3 v31 (l ++ [i]), .box b7 29 [vr, (.slice none 0 0)], .box b4 29 [(.slice none 0 0), (.slice none 0 0)], .box b2 24 [.int .i64 n, ve]] := H.drop 0
      refine q_list 5 1 [] [(1, .pointer (some ⟨b2, 0, none⟩)), (2, .pointer (some ⟨b4, 0, none⟩)), (3, .pointer (some ⟨b7, 0, none⟩)), (11, .int .i64 n), (12, .int .i64 i), (19, v31), (20, .pointer (some ⟨b7, 0 + 0, none⟩))] ((0 < Try.prog.cellsOf 27) ∧ True) hA H ⟨by decide +kernel, trivial⟩ fun a w33 hA H hG => ?_
      refine list_at 6 ?_; refine q_store 6 27 (.tmp 20) (.tmp 19) 2 b7 (0 + 0) 29 [vr, (.slice none 0 0)] [v31] [v31, (.slice none 0 0)] v31 [(1, .pointer (some ⟨b2, 0, none⟩)), (2, .pointer (some ⟨b4, 0, none⟩)), (3, .pointer (some ⟨b7, 0, none⟩)), (11, .int .i64 n), (12, .int .i64 i)] hA H rfl (one_cells (rd_one (H.out 1 rfl))) (Nat.le_of_ble_eq_true (by kernel_rfl)) rfl (fun v hv => by simp only [List.mem_cons, List.not_mem_nil, or_false] at hv; rcases hv with rfl; exact (rd_one (H.out 1 rfl))) fun a w34 H hA hG => ?_
      replace H : Fr _ _ _ [.row 3 (.slice none 0 0) ([] : List Int), .row 3 v31 (l ++ [i]), .box b7 29 [v31, (.slice none 0 0)], .box b4 29 [(.slice none 0 0), (.slice none 0 0)], .box b2 24 [.int .i64 n, ve]] := H
      refine list_end ?_
      refine hK25 _ _ ?_
      refine q_reg [] [(1, .pointer (some ⟨b2, 0, none⟩)), (2, .pointer (some ⟨b4, 0, none⟩)), (3, .pointer (some ⟨b7, 0, none⟩)), (11, .int .i64 n), (12, .int .i64 (i + 1))] ((InR .i64 (i + 1)) ∧ (True) ∧ True) hA H ⟨⟨by omega, by omega⟩, trivial, trivial⟩ fun a w35 hA H hG => ?_
      refine ⟨(i + 1, v31, l ++ [i]), ⟨env_sub _ hA, ⟨_, H⟩, ?_⟩, ?_⟩
      · (try dsimp only); exact ⟨by omega, by omega, by (try simp only [List.length_append, List.length_cons, List.length_nil]); omega, by rw [hi, upto_succ h0]⟩
      · (try dsimp only); omega
    · have hhb24 := of_decide_eq_false hb24
      refine go_exit 0 ?_
      refine hK16 _ _ ?_
      refine go_seq fun K36 hK36 => ?_
      refine go_seq fun K37 hK37 => ?_
      refine q_reg [(23, ve), (24, .int .i64 (E.length : Int))] [(2, .pointer (some ⟨b4, 0, none⟩)), (3, .pointer (some ⟨b7, 0, none⟩)), (24, .int .i64 (E.length : Int)), (25, .int .i64 0)] ((0 < Try.prog.cellsOf 22) ∧ (CellOk (On w22) b2 (0 + 1) (ve)) ∧ (LenOk ve (E.length : Int)) ∧ (True) ∧ True) hA H ⟨by decide +kernel, by exact box_cell H 4 rfl 1, by exact len_ok (H.arg hE), trivial, trivial⟩ fun a w38 hA H hG => ?_
      refine hK37 _ _ ?_
      refine go_block 2 ?_
      refine go_loop_ (Int × Value × List Int) (fun x_ a W => (fun (i2 : Int) (vr2 : Value) (l2 : List Int) => EnvOk 36 a (keepEnv [(2, .pointer (some ⟨b4, 0, none⟩)), (3, .pointer (some ⟨b7, 0, none⟩)), (24, .int .i64 (E.length : Int)), (25, .int .i64 i2)]) ∧ (∃ S, Fr o W S [.row 3 vr2 l2, .row 3 vr l, .box b7 29 [vr, vr2], .box b4 29 [(.slice none 0 0), (.slice none 0 0)], .box b2 24 [.int .i64 n, ve]]) ∧ 0 ≤ i2 ∧ (i2 ≤ (E.length : Int) ∨ i2 = 0) ∧ (l2.length : Int) ≤ i2 ∧ l2 = upto i2) x_.1 x_.2.1 x_.2.2) (fun x_ => (fun (i2 : Int) (vr2 : Value) (l2 : List Int) => ((E.length : Int) - i2).toNat) x_.1 x_.2.1 x_.2.2) (0, (.slice none 0 0), ([] : List Int)) ?_ (fun x_ a w40 hI => ?_)
      · (try dsimp only); exact ⟨env_sub _ hA, ⟨_, H⟩, by omega, by omega, by simp, rfl⟩
      obtain ⟨i2, vr2, l2⟩ := x_
      obtain ⟨hA, ⟨S, H⟩, h2, h2a, h3, hi2⟩ := hI
      try dsimp only at h2 h2a h3 hi2
      refine go_seq fun K41 hK41 => ?_
      refine q_reg [] [(2, .pointer (some ⟨b4, 0, none⟩)), (3, .pointer (some ⟨b7, 0, none⟩)), (24, .int .i64 (E.length : Int)), (25, .int .i64 i2), (26, .bool (decide (i2 < (E.length : Int))))] ((True) ∧ True) hA H ⟨trivial, trivial⟩ fun a w42 hA H hG => ?_
      refine hK41 _ _ ?_
      refine go_seq fun K43 hK43 => ?_
      refine go_cond hA (.tmp 26) (decide (i2 < (E.length : Int))) (fun hb44 => ?_) (fun hb44 => ?_)
      · have hhb44 := of_decide_eq_true hb44
        refine go_skip ?_
        refine hK43 _ _ ?_
        refine go_seq fun K45 hK45 => ?_
        refine go_block 3 ?_
        refine go_seq fun K46 hK46 => ?_
        refine q_reg [] [(2, .pointer (some ⟨b4, 0, none⟩)), (3, .pointer (some ⟨b7, 0, none⟩)), (5, .int .i64 i2), (24, .int .i64 (E.length : Int)), (25, .int .i64 i2)] ((True) ∧ (True) ∧ True) hA H ⟨trivial, trivial, trivial⟩ fun a w47 hA H hG => ?_
        refine hK46 _ _ ?_
        refine region_list ?_
        refine q_list 0 3 [(29, vr2)] [(2, .pointer (some ⟨b4, 0, none⟩)), (3, .pointer (some ⟨b7, 0, none⟩)), (24, .int .i64 (E.length : Int)), (25, .int .i64 i2), (29, vr2), (30, .int .i64 i2)] ((0 < Try.prog.cellsOf 27) ∧ (CellOk (On w47) b7 (0 + 1) (vr2)) ∧ (True) ∧ True) hA H ⟨by decide +kernel, by exact box_cell H 2 rfl 1, trivial, trivial⟩ fun a w48 hA H hG => ?_
        refine list_at 3 ?_; refine q_lit 3 31 27 1 #[(0, .tmp 30)] 3 [(0, .int .i64 i2)] [.int .i64 i2] [(2, .pointer (some ⟨b4, 0, none⟩)), (3, .pointer (some ⟨b7, 0, none⟩)), (24, .int .i64 (E.length : Int)), (25, .int .i64 i2), (29, vr2)] hA H fun b49 a w50 H hA hG hge_b49 => ?_
        clear hge_b49
        refine list_at 4 ?_; refine q_push 4 32 (.tmp 29) (.tmp 31) 1 0 b49 1 1 vr2 l2 [i2] [.int .i64 i2] [(2, .pointer (some ⟨b4, 0, none⟩)), (3, .pointer (some ⟨b7, 0, none⟩)), (24, .int .i64 (E.length : Int)), (25, .int .i64 i2)] hA H Try.E27 rfl rfl (by exact (RowRd.single (α := Int) rfl)) rfl (by simp only [List.length_cons, List.length_nil, List.length_append]; omega) (by decide) fun v51 a w52 H hA hG => ?_
        replace H : Fr _ _ _ [.row 3 v51 (l2 ++ [i2]), .row 3 vr l, .box b7 29 [vr, vr2], .box b4 29 [(.slice none 0 0), (.slice none 0 0)], .box b2 24 [.int .i64 n, ve]] := H.drop 0
        refine q_list 5 1 [] [(2, .pointer (some ⟨b4, 0, none⟩)), (3, .pointer (some ⟨b7, 0, none⟩)), (24, .int .i64 (E.length : Int)), (25, .int .i64 i2), (32, v51), (33, .pointer (some ⟨b7, 0 + 1, none⟩))] ((0 < Try.prog.cellsOf 27) ∧ True) hA H ⟨by decide +kernel, trivial⟩ fun a w53 hA H hG => ?_
        refine list_at 6 ?_; refine q_store 6 27 (.tmp 33) (.tmp 32) 2 b7 (0 + 1) 29 [vr, vr2] [v51] [vr, v51] v51 [(2, .pointer (some ⟨b4, 0, none⟩)), (3, .pointer (some ⟨b7, 0, none⟩)), (24, .int .i64 (E.length : Int)), (25, .int .i64 i2)] hA H rfl (one_cells (rd_one (H.out 0 rfl))) (Nat.le_of_ble_eq_true (by kernel_rfl)) rfl (fun v hv => by simp only [List.mem_cons, List.not_mem_nil, or_false] at hv; rcases hv with rfl; exact (rd_one (H.out 0 rfl))) fun a w54 H hA hG => ?_
        replace H : Fr _ _ _ [.row 3 v51 (l2 ++ [i2]), .row 3 vr l, .box b7 29 [vr, v51], .box b4 29 [(.slice none 0 0), (.slice none 0 0)], .box b2 24 [.int .i64 n, ve]] := H
        refine list_end ?_
        refine hK45 _ _ ?_
        refine q_reg [] [(2, .pointer (some ⟨b4, 0, none⟩)), (3, .pointer (some ⟨b7, 0, none⟩)), (24, .int .i64 (E.length : Int)), (25, .int .i64 (i2 + 1))] ((InR .i64 (i2 + 1)) ∧ (True) ∧ True) hA H ⟨⟨by omega, by omega⟩, trivial, trivial⟩ fun a w55 hA H hG => ?_
        refine ⟨(i2 + 1, v51, l2 ++ [i2]), ⟨env_sub _ hA, ⟨_, H⟩, ?_⟩, ?_⟩
        · (try dsimp only); exact ⟨by omega, by omega, by (try simp only [List.length_append, List.length_cons, List.length_nil]); omega, by rw [hi2, upto_succ h2]⟩
        · (try dsimp only); omega
      · have hhb44 := of_decide_eq_false hb44
        refine go_exit 2 ?_
        refine hK36 _ _ ?_
        refine go_seq fun K56 hK56 => ?_
        refine region_list ?_
        refine q_list 0 1 [(35, .agg #[vr, vr2])] [(2, .pointer (some ⟨b4, 0, none⟩)), (35, .agg #[vr, vr2])] (((Try.prog.info? 29).isSome = true ∧ RowOk (On w42) b7 (0) (Try.prog.cellsOf 29) #[vr, vr2]) ∧ True) hA H ⟨⟨by kernel_rfl, by exact box_row H 2 rfl 0 2⟩, trivial⟩ fun a w57 hA H hG => ?_
        refine list_at 1 ?_; refine q_store 1 29 (.tmp 2) (.tmp 35) 3 b4 (0) 29 [(.slice none 0 0), (.slice none 0 0)] [vr, vr2] [vr, vr2] (.agg #[vr, vr2]) [(2, .pointer (some ⟨b4, 0, none⟩))] hA H rfl rfl (Nat.le_of_ble_eq_true (by kernel_rfl)) rfl (fun v hv => by simp only [List.mem_cons, List.not_mem_nil, or_false] at hv; rcases hv with rfl | rfl; exact (rd_one (H.out 1 rfl)); exact (rd_one (H.out 0 rfl))) fun a w58 H hA hG => ?_
        replace H : Fr _ _ _ [.row 3 vr2 l2, .row 3 vr l, .box b7 29 [vr, vr2], .box b4 29 [vr, vr2], .box b2 24 [.int .i64 n, ve]] := H
        refine list_end ?_
        refine hK56 _ _ ?_
        refine go_ret_ ?_
        refine ret_cell 2 29 3 b4 29 [vr, vr2] #[vr, vr2] hA H rfl ?_ (ht := ⟨_, Try.underlying29⟩)
        rw [upto_eq hhb24 h0a] at hi; rw [upto_eq (by omega) h2a] at hi2; subst hi hi2
        exact ⟨_, rfl, by unfold wholeE; rw [if_neg (by omega)]; exact rd_two (H.give 1 rfl) (H.give 0 rfl), H.below⟩

set_option maxRecDepth 100000 in
set_option maxHeartbeats 1000000 in
theorem rwhole_any (n : Int) (ve : Value) (E : List (Int × Int)) (o : Orig) (hn : -9223372036854775808 ≤ n ∧ n ≤ 9223372036854775807) (hE : Rd (· < o.w.heap.size) o.w ve E) (hs1 : n ≤ 1000000) (hs2 : E.length ≤ 1000000) :
  Calls Try.prog 33 [.agg #[.int .i64 n, ve]].toArray o.w (Giv o (fun S v w' => Rd S w' v ((upto n, upto (E.length : Int))))) := by
  refine enter Try.f33 32 Try.func33 fun a hA => ?_
  replace hA := env_sub [(0, .agg #[.int .i64 n, ve])] hA
  have H := Fr.start o
  refine go_seq fun K1 hK1 => ?_
  refine region_list ?_
  refine list_at 0 ?_; refine q_box 0 1 24 (.tmp 0) (.agg #[.int .i64 n, ve]) [.int .i64 n, ve] [] hA H fun b2 a w3 H hA hG hge_b2 => ?_
  clear hge_b2
  refine list_at 1 ?_; refine q_alloc 1 2 29 [(.slice none 0 0), (.slice none 0 0)] [(1, .pointer (some ⟨b2, 0, none⟩))] hA H fun b4 a w5 H hA hG hge_b4 => ?_
  clear hge_b4
  refine list_end ?_
  refine hK1 _ _ ?_
  refine go_seq fun K6 hK6 => ?_
  refine region_list ?_
  refine list_at 0 ?_; refine q_alloc 0 3 29 [(.slice none 0 0), (.slice none 0 0)] [(1, .pointer (some ⟨b2, 0, none⟩)), (2, .pointer (some ⟨b4, 0, none⟩))] hA H fun b7 a w8 H hA hG hge_b7 => ?_
  clear hge_b7
  replace H := H.newRow (α := Int) 3
  replace H := H.newRow (α := Int) 3
  refine list_end ?_
  refine hK6 _ _ ?_
  refine go_seq fun K9 hK9 => ?_
  refine go_seq fun K10 hK10 => ?_
  refine q_reg [] [(1, .pointer (some ⟨b2, 0, none⟩)), (2, .pointer (some ⟨b4, 0, none⟩)), (3, .pointer (some ⟨b7, 0, none⟩)), (4, .int .i64 0)] ((True) ∧ True) hA H ⟨trivial, trivial⟩ fun a w11 hA H hG => ?_
  refine hK10 _ _ ?_
  refine go_block 0 ?_
  refine go_loop_ (Int × Value × List Int) (fun x_ a W => (fun (i : Int) (vr : Value) (l : List Int) => EnvOk 32 a (keepEnv [(1, .pointer (some ⟨b2, 0, none⟩)), (2, .pointer (some ⟨b4, 0, none⟩)), (3, .pointer (some ⟨b7, 0, none⟩)), (4, .int .i64 i)]) ∧ (∃ S, Fr o W S [.row 3 (.slice none 0 0) ([] : List Int), .row 3 vr l, .box b7 29 [vr, (.slice none 0 0)], .box b4 29 [(.slice none 0 0), (.slice none 0 0)], .box b2 24 [.int .i64 n, ve]]) ∧ 0 ≤ i ∧ (i ≤ n ∨ i = 0) ∧ (l.length : Int) ≤ i ∧ l = upto i) x_.1 x_.2.1 x_.2.2) (fun x_ => (fun (i : Int) (vr : Value) (l : List Int) => (n - i).toNat) x_.1 x_.2.1 x_.2.2) (0, (.slice none 0 0), ([] : List Int)) ?_ (fun x_ a w13 hI => ?_)
  · (try dsimp only); exact ⟨env_sub _ hA, ⟨_, H⟩, by omega, by omega, by simp, rfl⟩
  obtain ⟨i, vr, l⟩ := x_
  obtain ⟨hA, ⟨S, H⟩, h0, h0a, h1, hi⟩ := hI
  try dsimp only at h0 h0a h1 hi
  refine go_seq fun K14 hK14 => ?_
  refine go_seq fun K15 hK15 => ?_
  refine q_reg [(8, .int .i64 n)] [(1, .pointer (some ⟨b2, 0, none⟩)), (2, .pointer (some ⟨b4, 0, none⟩)), (3, .pointer (some ⟨b7, 0, none⟩)), (4, .int .i64 i), (9, .bool (decide (i < n)))] ((True) ∧ (0 < Try.prog.cellsOf 3) ∧ (CellOk (On w13) b2 (0 + 0) (.int .i64 n)) ∧ (True) ∧ True) hA H ⟨trivial, by decide +kernel, by exact box_cell H 4 rfl 0, trivial, trivial⟩ fun a w16 hA H hG => ?_
  refine hK15 _ _ ?_
  refine go_cond hA (.tmp 9) (decide (i < n)) (fun hb17 => ?_) (fun hb17 => ?_)
  · have hhb17 := of_decide_eq_true hb17
    refine go_skip ?_
    refine hK14 _ _ ?_
    refine go_seq fun K18 hK18 => ?_
    refine go_block 1 ?_
    refine region_list ?_
    refine q_list 0 3 [(13, vr)] [(1, .pointer (some ⟨b2, 0, none⟩)), (2, .pointer (some ⟨b4, 0, none⟩)), (3, .pointer (some ⟨b7, 0, none⟩)), (4, .int .i64 i), (13, vr), (14, .int .i64 i)] ((0 < Try.prog.cellsOf 27) ∧ (CellOk (On w16) b7 (0 + 0) (vr)) ∧ (True) ∧ True) hA H ⟨by decide +kernel, by exact box_cell H 2 rfl 0, trivial, trivial⟩ fun a w19 hA H hG => ?_
    refine list_at 3 ?_; refine q_lit 3 15 27 1 #[(0, .tmp 14)] 3 [(0, .int .i64 i)] [.int .i64 i] [(1, .pointer (some ⟨b2, 0, none⟩)), (2, .pointer (some ⟨b4, 0, none⟩)), (3, .pointer (some ⟨b7, 0, none⟩)), (4, .int .i64 i), (13, vr)] hA H fun b20 a w21 H hA hG hge_b20 => ?_
    clear hge_b20
    refine list_at 4 ?_; refine q_push 4 16 (.tmp 13) (.tmp 15) 2 0 b20 1 1 vr l [i] [.int .i64 i] [(1, .pointer (some ⟨b2, 0, none⟩)), (2, .pointer (some ⟨b4, 0, none⟩)), (3, .pointer (some ⟨b7, 0, none⟩)), (4, .int .i64 i)] hA H Try.E27 rfl rfl (by exact (RowRd.single (α := Int) rfl)) rfl (by simp only [List.length_cons, List.length_nil, List.length_append]; omega) (by decide) fun v22 a w23 H hA hG => ?_
    replace H : Fr _ _ _ [.row 3 (.slice none 0 0) ([] : List Int), .row 3 v22 (l ++ [i]), .box b7 29 [vr, (.slice none 0 0)], .box b4 29 [(.slice none 0 0), (.slice none 0 0)], .box b2 24 [.int .i64 n, ve]] := H.drop 0
    refine q_list 5 1 [] [(1, .pointer (some ⟨b2, 0, none⟩)), (2, .pointer (some ⟨b4, 0, none⟩)), (3, .pointer (some ⟨b7, 0, none⟩)), (4, .int .i64 i), (16, v22), (17, .pointer (some ⟨b7, 0 + 0, none⟩))] ((0 < Try.prog.cellsOf 27) ∧ True) hA H ⟨by decide +kernel, trivial⟩ fun a w24 hA H hG => ?_
    refine list_at 6 ?_; refine q_store 6 27 (.tmp 17) (.tmp 16) 2 b7 (0 + 0) 29 [vr, (.slice none 0 0)] [v22] [v22, (.slice none 0 0)] v22 [(1, .pointer (some ⟨b2, 0, none⟩)), (2, .pointer (some ⟨b4, 0, none⟩)), (3, .pointer (some ⟨b7, 0, none⟩)), (4, .int .i64 i)] hA H rfl (one_cells (rd_one (H.out 1 rfl))) (Nat.le_of_ble_eq_true (by kernel_rfl)) rfl (fun v hv => by simp only [List.mem_cons, List.not_mem_nil, or_false] at hv; rcases hv with rfl; exact (rd_one (H.out 1 rfl))) fun a w25 H hA hG => ?_
    replace H : Fr _ _ _ [.row 3 (.slice none 0 0) ([] : List Int), .row 3 v22 (l ++ [i]), .box b7 29 [v22, (.slice none 0 0)], .box b4 29 [(.slice none 0 0), (.slice none 0 0)], .box b2 24 [.int .i64 n, ve]] := H
    refine list_end ?_
    refine hK18 _ _ ?_
    refine q_reg [] [(1, .pointer (some ⟨b2, 0, none⟩)), (2, .pointer (some ⟨b4, 0, none⟩)), (3, .pointer (some ⟨b7, 0, none⟩)), (4, .int .i64 (i + 1))] ((True) ∧ (InR .i64 (i + 1)) ∧ (True) ∧ True) hA H ⟨trivial, ⟨by omega, by omega⟩, trivial, trivial⟩ fun a w26 hA H hG => ?_
    refine ⟨(i + 1, v22, l ++ [i]), ⟨env_sub _ hA, ⟨_, H⟩, ?_⟩, ?_⟩
    · (try dsimp only); exact ⟨by omega, by omega, by (try simp only [List.length_append, List.length_cons, List.length_nil]); omega, by rw [hi, upto_succ h0]⟩
    · (try dsimp only); omega
  · have hhb17 := of_decide_eq_false hb17
    refine go_exit 0 ?_
    refine hK9 _ _ ?_
    refine go_seq fun K27 hK27 => ?_
    refine go_seq fun K28 hK28 => ?_
    refine q_reg [] [(1, .pointer (some ⟨b2, 0, none⟩)), (2, .pointer (some ⟨b4, 0, none⟩)), (3, .pointer (some ⟨b7, 0, none⟩)), (5, .int .i64 0)] ((True) ∧ True) hA H ⟨trivial, trivial⟩ fun a w29 hA H hG => ?_
    refine hK28 _ _ ?_
    refine go_block 2 ?_
    refine go_loop_ (Int × Value × List Int) (fun x_ a W => (fun (i2 : Int) (vr2 : Value) (l2 : List Int) => EnvOk 32 a (keepEnv [(1, .pointer (some ⟨b2, 0, none⟩)), (2, .pointer (some ⟨b4, 0, none⟩)), (3, .pointer (some ⟨b7, 0, none⟩)), (5, .int .i64 i2)]) ∧ (∃ S, Fr o W S [.row 3 vr2 l2, .row 3 vr l, .box b7 29 [vr, vr2], .box b4 29 [(.slice none 0 0), (.slice none 0 0)], .box b2 24 [.int .i64 n, ve]]) ∧ 0 ≤ i2 ∧ (i2 ≤ (E.length : Int) ∨ i2 = 0) ∧ (l2.length : Int) ≤ i2 ∧ l2 = upto i2) x_.1 x_.2.1 x_.2.2) (fun x_ => (fun (i2 : Int) (vr2 : Value) (l2 : List Int) => ((E.length : Int) - i2).toNat) x_.1 x_.2.1 x_.2.2) (0, (.slice none 0 0), ([] : List Int)) ?_ (fun x_ a w31 hI => ?_)
    · (try dsimp only); exact ⟨env_sub _ hA, ⟨_, H⟩, by omega, by omega, by simp, rfl⟩
    obtain ⟨i2, vr2, l2⟩ := x_
    obtain ⟨hA, ⟨S, H⟩, h2, h2a, h3, hi2⟩ := hI
    try dsimp only at h2 h2a h3 hi2
    refine go_seq fun K32 hK32 => ?_
    refine go_seq fun K33 hK33 => ?_
    refine q_reg [(20, ve), (21, .int .i64 (E.length : Int))] [(1, .pointer (some ⟨b2, 0, none⟩)), (2, .pointer (some ⟨b4, 0, none⟩)), (3, .pointer (some ⟨b7, 0, none⟩)), (5, .int .i64 i2), (22, .bool (decide (i2 < (E.length : Int))))] ((True) ∧ (0 < Try.prog.cellsOf 22) ∧ (CellOk (On w31) b2 (0 + 1) (ve)) ∧ (LenOk ve (E.length : Int)) ∧ (True) ∧ True) hA H ⟨trivial, by decide +kernel, by exact box_cell H 4 rfl 1, by exact len_ok (H.arg hE), trivial, trivial⟩ fun a w34 hA H hG => ?_
    refine hK33 _ _ ?_
    refine go_cond hA (.tmp 22) (decide (i2 < (E.length : Int))) (fun hb35 => ?_) (fun hb35 => ?_)
    · have hhb35 := of_decide_eq_true hb35
      refine go_skip ?_
      refine hK32 _ _ ?_
      refine go_seq fun K36 hK36 => ?_
      refine go_block 3 ?_
      refine region_list ?_
      refine q_list 0 3 [(26, vr2)] [(1, .pointer (some ⟨b2, 0, none⟩)), (2, .pointer (some ⟨b4, 0, none⟩)), (3, .pointer (some ⟨b7, 0, none⟩)), (5, .int .i64 i2), (26, vr2), (27, .int .i64 i2)] ((0 < Try.prog.cellsOf 27) ∧ (CellOk (On w34) b7 (0 + 1) (vr2)) ∧ (True) ∧ True) hA H ⟨by decide +kernel, by exact box_cell H 2 rfl 1, trivial, trivial⟩ fun a w37 hA H hG => ?_
      refine list_at 3 ?_; refine q_lit 3 28 27 1 #[(0, .tmp 27)] 3 [(0, .int .i64 i2)] [.int .i64 i2] [(1, .pointer (some ⟨b2, 0, none⟩)), (2, .pointer (some ⟨b4, 0, none⟩)), (3, .pointer (some ⟨b7, 0, none⟩)), (5, .int .i64 i2), (26, vr2)] hA H fun b38 a w39 H hA hG hge_b38 => ?_
      clear hge_b38
      refine list_at 4 ?_; refine q_push 4 29 (.tmp 26) (.tmp 28) 1 0 b38 1 1 vr2 l2 [i2] [.int .i64 i2] [(1, .pointer (some ⟨b2, 0, none⟩)), (2, .pointer (some ⟨b4, 0, none⟩)), (3, .pointer (some ⟨b7, 0, none⟩)), (5, .int .i64 i2)] hA H Try.E27 rfl rfl (by exact (RowRd.single (α := Int) rfl)) rfl (by simp only [List.length_cons, List.length_nil, List.length_append]; omega) (by decide) fun v40 a w41 H hA hG => ?_
      replace H : Fr _ _ _ [.row 3 v40 (l2 ++ [i2]), .row 3 vr l, .box b7 29 [vr, vr2], .box b4 29 [(.slice none 0 0), (.slice none 0 0)], .box b2 24 [.int .i64 n, ve]] := H.drop 0
      refine q_list 5 1 [] [(1, .pointer (some ⟨b2, 0, none⟩)), (2, .pointer (some ⟨b4, 0, none⟩)), (3, .pointer (some ⟨b7, 0, none⟩)), (5, .int .i64 i2), (29, v40), (30, .pointer (some ⟨b7, 0 + 1, none⟩))] ((0 < Try.prog.cellsOf 27) ∧ True) hA H ⟨by decide +kernel, trivial⟩ fun a w42 hA H hG => ?_
      refine list_at 6 ?_; refine q_store 6 27 (.tmp 30) (.tmp 29) 2 b7 (0 + 1) 29 [vr, vr2] [v40] [vr, v40] v40 [(1, .pointer (some ⟨b2, 0, none⟩)), (2, .pointer (some ⟨b4, 0, none⟩)), (3, .pointer (some ⟨b7, 0, none⟩)), (5, .int .i64 i2)] hA H rfl (one_cells (rd_one (H.out 0 rfl))) (Nat.le_of_ble_eq_true (by kernel_rfl)) rfl (fun v hv => by simp only [List.mem_cons, List.not_mem_nil, or_false] at hv; rcases hv with rfl; exact (rd_one (H.out 0 rfl))) fun a w43 H hA hG => ?_
      replace H : Fr _ _ _ [.row 3 v40 (l2 ++ [i2]), .row 3 vr l, .box b7 29 [vr, v40], .box b4 29 [(.slice none 0 0), (.slice none 0 0)], .box b2 24 [.int .i64 n, ve]] := H
      refine list_end ?_
      refine hK36 _ _ ?_
      refine q_reg [] [(1, .pointer (some ⟨b2, 0, none⟩)), (2, .pointer (some ⟨b4, 0, none⟩)), (3, .pointer (some ⟨b7, 0, none⟩)), (5, .int .i64 (i2 + 1))] ((True) ∧ (InR .i64 (i2 + 1)) ∧ (True) ∧ True) hA H ⟨trivial, ⟨by omega, by omega⟩, trivial, trivial⟩ fun a w44 hA H hG => ?_
      refine ⟨(i2 + 1, v40, l2 ++ [i2]), ⟨env_sub _ hA, ⟨_, H⟩, ?_⟩, ?_⟩
      · (try dsimp only); exact ⟨by omega, by omega, by (try simp only [List.length_append, List.length_cons, List.length_nil]); omega, by rw [hi2, upto_succ h2]⟩
      · (try dsimp only); omega
    · have hhb35 := of_decide_eq_false hb35
      refine go_exit 2 ?_
      refine hK27 _ _ ?_
      refine go_seq fun K45 hK45 => ?_
      refine region_list ?_
      refine q_list 0 1 [(31, .agg #[vr, vr2])] [(2, .pointer (some ⟨b4, 0, none⟩)), (31, .agg #[vr, vr2])] (((Try.prog.info? 29).isSome = true ∧ RowOk (On w34) b7 (0) (Try.prog.cellsOf 29) #[vr, vr2]) ∧ True) hA H ⟨⟨by kernel_rfl, by exact box_row H 2 rfl 0 2⟩, trivial⟩ fun a w46 hA H hG => ?_
      refine list_at 1 ?_; refine q_store 1 29 (.tmp 2) (.tmp 31) 3 b4 (0) 29 [(.slice none 0 0), (.slice none 0 0)] [vr, vr2] [vr, vr2] (.agg #[vr, vr2]) [(2, .pointer (some ⟨b4, 0, none⟩))] hA H rfl rfl (Nat.le_of_ble_eq_true (by kernel_rfl)) rfl (fun v hv => by simp only [List.mem_cons, List.not_mem_nil, or_false] at hv; rcases hv with rfl | rfl; exact (rd_one (H.out 1 rfl)); exact (rd_one (H.out 0 rfl))) fun a w47 H hA hG => ?_
      replace H : Fr _ _ _ [.row 3 vr2 l2, .row 3 vr l, .box b7 29 [vr, vr2], .box b4 29 [vr, vr2], .box b2 24 [.int .i64 n, ve]] := H
      refine list_end ?_
      refine hK45 _ _ ?_
      refine go_ret_ ?_
      refine ret_cell 2 29 3 b4 29 [vr, vr2] #[vr, vr2] hA H rfl ?_ (ht := ⟨_, Try.underlying29⟩)
      rw [upto_eq hhb17 h0a] at hi; rw [upto_eq (by omega) h2a] at hi2; subst hi hi2
      exact ⟨_, rfl, by exact rd_two (H.give 1 rfl) (H.give 0 rfl), H.below⟩

set_option maxRecDepth 100000 in
set_option maxHeartbeats 1000000 in
theorem drop_any (va ea : Value) (A B : List Int) (x : Int) (o : Orig) (gA : Rd (· < o.w.heap.size) o.w va A) (gB : Rd (· < o.w.heap.size) o.w ea B) (hs1 : A.length ≤ 1000000) (hs2 : B.length ≤ 1000000) :
  Calls Try.prog 38 [.agg #[va, ea], .int .i64 x].toArray o.w (Giv o (fun S v w' => Rd S w' v ((A, dropL B x)))) := by
  refine enter Try.f38 32 Try.func38 fun a hA => ?_
  replace hA := env_sub [(0, .agg #[va, ea]), (1, .int .i64 x)] hA
  have H := Fr.start o
  refine go_seq fun K1 hK1 => ?_
  refine region_list ?_
  refine list_at 0 ?_; refine q_box 0 2 29 (.tmp 0) (.agg #[va, ea]) [va, ea] [(1, .int .i64 x)] hA H fun b2 a w3 H hA hG hge_b2 => ?_
  clear hge_b2
  refine list_at 1 ?_; refine q_alloc 1 4 29 [(.slice none 0 0), (.slice none 0 0)] [(1, .int .i64 x), (2, .pointer (some ⟨b2, 0, none⟩))] hA H fun b4 a w5 H hA hG hge_b4 => ?_
  clear hge_b4
  refine list_end ?_
  refine hK1 _ _ ?_
  refine go_seq fun K6 hK6 => ?_
  refine region_list ?_
  refine list_at 0 ?_; refine q_alloc 0 5 29 [(.slice none 0 0), (.slice none 0 0)] [(1, .int .i64 x), (2, .pointer (some ⟨b2, 0, none⟩)), (4, .pointer (some ⟨b4, 0, none⟩))] hA H fun b7 a w8 H hA hG hge_b7 => ?_
  clear hge_b7
  replace H := H.newRow (α := Int) 3
  replace H := H.newRow (α := Int) 3
  refine list_end ?_
  refine hK6 _ _ ?_
  refine go_seq fun K9 hK9 => ?_
  refine region_list ?_
  refine q_list 0 4 [(9, (.slice none 0 0)), (11, va)] [(1, .int .i64 x), (2, .pointer (some ⟨b2, 0, none⟩)), (4, .pointer (some ⟨b4, 0, none⟩)), (5, .pointer (some ⟨b7, 0, none⟩)), (9, (.slice none 0 0)), (11, va)] ((0 < Try.prog.cellsOf 27) ∧ (CellOk (On w8) b7 (0 + 0) ((.slice none 0 0))) ∧ (0 < Try.prog.cellsOf 27) ∧ (CellOk (On w8) b2 (0 + 0) (va)) ∧ True) hA H ⟨by decide +kernel, by exact box_cell H 2 rfl 0, by decide +kernel, by exact box_cell H 4 rfl 0, trivial⟩ fun a w10 hA H hG => ?_
  refine list_at 4 ?_; refine q_pushS 4 12 (.tmp 9) (.tmp 11) 1 (.slice none 0 0) va ([] : List Int) A [(1, .int .i64 x), (2, .pointer (some ⟨b2, 0, none⟩)), (4, .pointer (some ⟨b4, 0, none⟩)), (5, .pointer (some ⟨b7, 0, none⟩))] hA H Try.E27 rfl (H.arg gA) (by simp only [List.length_cons, List.length_nil, List.length_append]; omega) (by decide) (fun _ _ h => h) fun v11 a w12 H hA hG => ?_
  replace H : Fr _ _ _ [.row 3 (.slice none 0 0) ([] : List Int), .row 3 v11 (([] : List Int) ++ A), .box b7 29 [(.slice none 0 0), (.slice none 0 0)], .box b4 29 [(.slice none 0 0), (.slice none 0 0)], .box b2 29 [va, ea]] := H
  refine q_list 5 1 [] [(1, .int .i64 x), (2, .pointer (some ⟨b2, 0, none⟩)), (4, .pointer (some ⟨b4, 0, none⟩)), (5, .pointer (some ⟨b7, 0, none⟩)), (12, v11), (13, .pointer (some ⟨b7, 0 + 0, none⟩))] ((0 < Try.prog.cellsOf 27) ∧ True) hA H ⟨by decide +kernel, trivial⟩ fun a w13 hA H hG => ?_
  refine list_at 6 ?_; refine q_store 6 27 (.tmp 13) (.tmp 12) 2 b7 (0 + 0) 29 [(.slice none 0 0), (.slice none 0 0)] [v11] [v11, (.slice none 0 0)] v11 [(1, .int .i64 x), (2, .pointer (some ⟨b2, 0, none⟩)), (4, .pointer (some ⟨b4, 0, none⟩)), (5, .pointer (some ⟨b7, 0, none⟩))] hA H rfl (one_cells (rd_one (H.out 1 rfl))) (Nat.le_of_ble_eq_true (by kernel_rfl)) rfl (fun v hv => by simp only [List.mem_cons, List.not_mem_nil, or_false] at hv; rcases hv with rfl; exact (rd_one (H.out 1 rfl))) fun a w14 H hA hG => ?_
  replace H : Fr _ _ _ [.row 3 (.slice none 0 0) ([] : List Int), .row 3 v11 (([] : List Int) ++ A), .box b7 29 [v11, (.slice none 0 0)], .box b4 29 [(.slice none 0 0), (.slice none 0 0)], .box b2 29 [va, ea]] := H
  refine list_end ?_
  refine hK9 _ _ ?_
  refine go_seq fun K15 hK15 => ?_
  refine go_seq fun K16 hK16 => ?_
  refine q_reg [(15, ea), (16, .int .i64 (B.length : Int))] [(1, .int .i64 x), (4, .pointer (some ⟨b4, 0, none⟩)), (5, .pointer (some ⟨b7, 0, none⟩)), (15, ea), (16, .int .i64 (B.length : Int)), (17, .int .i64 0)] ((0 < Try.prog.cellsOf 27) ∧ (CellOk (On w14) b2 (0 + 1) (ea)) ∧ (LenOk ea (B.length : Int)) ∧ (True) ∧ True) hA H ⟨by decide +kernel, by exact box_cell H 4 rfl 1, by exact len_ok (H.arg gB), trivial, trivial⟩ fun a w17 hA H hG => ?_
  refine hK16 _ _ ?_
  refine go_block 0 ?_
  refine go_loop_ (Int × Value × List Int) (fun x_ a W => (fun (i : Int) (vr : Value) (l : List Int) => EnvOk 32 a (keepEnv [(1, .int .i64 x), (4, .pointer (some ⟨b4, 0, none⟩)), (5, .pointer (some ⟨b7, 0, none⟩)), (15, ea), (16, .int .i64 (B.length : Int)), (17, .int .i64 i)]) ∧ (∃ S, Fr o W S [.row 3 vr l, .row 3 v11 (([] : List Int) ++ A), .box b7 29 [v11, vr], .box b4 29 [(.slice none 0 0), (.slice none 0 0)], .box b2 29 [va, ea]]) ∧ 0 ≤ i ∧ (l.length : Int) ≤ i ∧ l ++ dropL (B.drop i.toNat) x = dropL B x) x_.1 x_.2.1 x_.2.2) (fun x_ => (fun (i : Int) (vr : Value) (l : List Int) => ((B.length : Int) - i).toNat) x_.1 x_.2.1 x_.2.2) (0, .slice none 0 0, []) ?_ (fun x_ a w19 hI => ?_)
  · (try dsimp only); exact ⟨env_sub _ hA, ⟨_, H⟩, by omega, by simp, by simp⟩
  obtain ⟨i, vr, l⟩ := x_
  obtain ⟨hA, ⟨S, H⟩, h0, h1, hi⟩ := hI
  try dsimp only at h0 h1 hi
  refine go_seq fun K20 hK20 => ?_
  refine q_reg [] [(1, .int .i64 x), (4, .pointer (some ⟨b4, 0, none⟩)), (5, .pointer (some ⟨b7, 0, none⟩)), (15, ea), (16, .int .i64 (B.length : Int)), (17, .int .i64 i), (18, .bool (decide (i < (B.length : Int))))] ((True) ∧ True) hA H ⟨trivial, trivial⟩ fun a w21 hA H hG => ?_
  refine hK20 _ _ ?_
  refine go_seq fun K22 hK22 => ?_
  refine go_cond hA (.tmp 18) (decide (i < (B.length : Int))) (fun hb23 => ?_) (fun hb23 => ?_)
  · have hhb23 := of_decide_eq_true hb23
    refine go_skip ?_
    refine hK22 _ _ ?_
    refine go_seq fun K24 hK24 => ?_
    refine go_block 1 ?_
    refine go_seq fun K25 hK25 => ?_
    refine q_reg [(20, .int .i64 (B.getD i.toNat 0))] [(1, .int .i64 x), (4, .pointer (some ⟨b4, 0, none⟩)), (5, .pointer (some ⟨b7, 0, none⟩)), (7, .int .i64 (B.getD i.toNat 0)), (15, ea), (16, .int .i64 (B.length : Int)), (17, .int .i64 i)] (((Try.prog.info? 3).isSome = true ∧ IdxOk ea i) ∧ (CellOk (On w21) (hdB ea) (hdO ea + i.toNat * 1) (.int .i64 (B.getD i.toNat 0))) ∧ (True) ∧ True) hA H ⟨⟨by kernel_rfl, by exact idx_ok (H.arg gB) (by omega) (by omega)⟩, by exact cell_flat (i := i) (H.arg gB) (by omega) (by omega) 0 0, trivial, trivial⟩ fun a w26 hA H hG => ?_
    refine hK25 _ _ ?_
    refine go_seq fun K27 hK27 => ?_
    refine q_reg [] [(1, .int .i64 x), (4, .pointer (some ⟨b4, 0, none⟩)), (5, .pointer (some ⟨b7, 0, none⟩)), (7, .int .i64 (B.getD i.toNat 0)), (15, ea), (16, .int .i64 (B.length : Int)), (17, .int .i64 i), (23, .bool (!decide ((B.getD i.toNat 0) = x)))] ((True) ∧ (True) ∧ (True) ∧ True) hA H ⟨trivial, trivial, trivial, trivial⟩ fun a w28 hA H hG => ?_
    refine hK27 _ _ ?_
    refine go_cond hA (.tmp 23) (!decide ((B.getD i.toNat 0) = x)) (fun hb29 => ?_) (fun hb29 => ?_)
    · have hhb29 := of_decide_eq_false (nT hb29)
      refine region_list ?_
      refine q_list 0 3 [(25, vr)] [(1, .int .i64 x), (4, .pointer (some ⟨b4, 0, none⟩)), (5, .pointer (some ⟨b7, 0, none⟩)), (15, ea), (16, .int .i64 (B.length : Int)), (17, .int .i64 i), (25, vr), (26, .int .i64 (B.getD i.toNat 0))] ((0 < Try.prog.cellsOf 27) ∧ (CellOk (On w28) b7 (0 + 1) (vr)) ∧ (True) ∧ True) hA H ⟨by decide +kernel, by exact box_cell H 2 rfl 1, trivial, trivial⟩ fun a w30 hA H hG => ?_
      refine list_at 3 ?_; refine q_lit 3 27 27 1 #[(0, .tmp 26)] 3 [(0, .int .i64 (B.getD i.toNat 0))] [.int .i64 (B.getD i.toNat 0)] [(1, .int .i64 x), (4, .pointer (some ⟨b4, 0, none⟩)), (5, .pointer (some ⟨b7, 0, none⟩)), (15, ea), (16, .int .i64 (B.length : Int)), (17, .int .i64 i), (25, vr)] hA H fun b31 a w32 H hA hG hge_b31 => ?_
      clear hge_b31
      refine list_at 4 ?_; refine q_push 4 28 (.tmp 25) (.tmp 27) 1 0 b31 1 1 vr l [(B.getD i.toNat 0)] [.int .i64 (B.getD i.toNat 0)] [(1, .int .i64 x), (4, .pointer (some ⟨b4, 0, none⟩)), (5, .pointer (some ⟨b7, 0, none⟩)), (15, ea), (16, .int .i64 (B.length : Int)), (17, .int .i64 i)] hA H Try.E27 rfl rfl (by exact (RowRd.single (α := Int) rfl)) rfl (by simp only [List.length_cons, List.length_nil, List.length_append]; omega) (by decide) fun v33 a w34 H hA hG => ?_
      replace H : Fr _ _ _ [.row 3 v33 (l ++ [(B.getD i.toNat 0)]), .row 3 v11 (([] : List Int) ++ A), .box b7 29 [v11, vr], .box b4 29 [(.slice none 0 0), (.slice none 0 0)], .box b2 29 [va, ea]] := H.drop 0
      refine q_list 5 1 [] [(1, .int .i64 x), (4, .pointer (some ⟨b4, 0, none⟩)), (5, .pointer (some ⟨b7, 0, none⟩)), (15, ea), (16, .int .i64 (B.length : Int)), (17, .int .i64 i), (28, v33), (29, .pointer (some ⟨b7, 0 + 1, none⟩))] ((0 < Try.prog.cellsOf 27) ∧ True) hA H ⟨by decide +kernel, trivial⟩ fun a w35 hA H hG => ?_
      refine list_at 6 ?_; refine q_store 6 27 (.tmp 29) (.tmp 28) 2 b7 (0 + 1) 29 [v11, vr] [v33] [v11, v33] v33 [(1, .int .i64 x), (4, .pointer (some ⟨b4, 0, none⟩)), (5, .pointer (some ⟨b7, 0, none⟩)), (15, ea), (16, .int .i64 (B.length : Int)), (17, .int .i64 i)] hA H rfl (one_cells (rd_one (H.out 0 rfl))) (Nat.le_of_ble_eq_true (by kernel_rfl)) rfl (fun v hv => by simp only [List.mem_cons, List.not_mem_nil, or_false] at hv; rcases hv with rfl; exact (rd_one (H.out 0 rfl))) fun a w36 H hA hG => ?_
      replace H : Fr _ _ _ [.row 3 v33 (l ++ [(B.getD i.toNat 0)]), .row 3 v11 (([] : List Int) ++ A), .box b7 29 [v11, v33], .box b4 29 [(.slice none 0 0), (.slice none 0 0)], .box b2 29 [va, ea]] := H
      refine list_end ?_
      refine hK24 _ _ ?_
      refine q_reg [] [(1, .int .i64 x), (4, .pointer (some ⟨b4, 0, none⟩)), (5, .pointer (some ⟨b7, 0, none⟩)), (15, ea), (16, .int .i64 (B.length : Int)), (17, .int .i64 (i + 1))] ((InR .i64 (i + 1)) ∧ (True) ∧ True) hA H ⟨⟨by omega, by omega⟩, trivial, trivial⟩ fun a w37 hA H hG => ?_
      refine ⟨(i + 1, v33, l ++ [(B.getD i.toNat 0)]), ⟨env_sub _ hA, ⟨_, H⟩, ?_⟩, ?_⟩
      · (try dsimp only); refine ⟨by omega, by (try simp only [List.length_append, List.length_cons, List.length_nil]); omega, by rw [dropL_round h0 (by omega)] at hi; simp only [hhb29, if_true, if_false, List.nil_append] at hi; (try simp only [List.append_assoc] at hi ⊢); exact hi⟩
      · (try dsimp only); omega
    · have hhb29 := of_decide_eq_true (nF hb29)
      refine go_skip ?_
      refine hK24 _ _ ?_
      refine q_reg [] [(1, .int .i64 x), (4, .pointer (some ⟨b4, 0, none⟩)), (5, .pointer (some ⟨b7, 0, none⟩)), (15, ea), (16, .int .i64 (B.length : Int)), (17, .int .i64 (i + 1))] ((InR .i64 (i + 1)) ∧ (True) ∧ True) hA H ⟨⟨by omega, by omega⟩, trivial, trivial⟩ fun a w38 hA H hG => ?_
      refine ⟨(i + 1, vr, l), ⟨env_sub _ hA, ⟨_, H⟩, ?_⟩, ?_⟩
      · (try dsimp only); refine ⟨by omega, by (try simp only [List.length_append, List.length_cons, List.length_nil]); omega, by rw [dropL_round h0 (by omega)] at hi; simp only [hhb29, if_true, if_false, List.nil_append] at hi; (try simp only [List.append_assoc] at hi ⊢); exact hi⟩
      · (try dsimp only); omega
  · have hhb23 := of_decide_eq_false hb23
    refine go_exit 0 ?_
    refine hK15 _ _ ?_
    refine go_seq fun K39 hK39 => ?_
    refine region_list ?_
    refine q_list 0 1 [(31, .agg #[v11, vr])] [(4, .pointer (some ⟨b4, 0, none⟩)), (31, .agg #[v11, vr])] (((Try.prog.info? 29).isSome = true ∧ RowOk (On w21) b7 (0) (Try.prog.cellsOf 29) #[v11, vr]) ∧ True) hA H ⟨⟨by kernel_rfl, by exact box_row H 2 rfl 0 2⟩, trivial⟩ fun a w40 hA H hG => ?_
    refine list_at 1 ?_; refine q_store 1 29 (.tmp 4) (.tmp 31) 3 b4 (0) 29 [(.slice none 0 0), (.slice none 0 0)] [v11, vr] [v11, vr] (.agg #[v11, vr]) [(4, .pointer (some ⟨b4, 0, none⟩))] hA H rfl rfl (Nat.le_of_ble_eq_true (by kernel_rfl)) rfl (fun v hv => by simp only [List.mem_cons, List.not_mem_nil, or_false] at hv; rcases hv with rfl | rfl; exact (rd_one (H.out 1 rfl)); exact (rd_one (H.out 0 rfl))) fun a w41 H hA hG => ?_
    replace H : Fr _ _ _ [.row 3 vr l, .row 3 v11 (([] : List Int) ++ A), .box b7 29 [v11, vr], .box b4 29 [v11, vr], .box b2 29 [va, ea]] := H
    refine list_end ?_
    refine hK39 _ _ ?_
    refine go_ret_ ?_
    refine ret_cell 4 29 3 b4 29 [v11, vr] #[v11, vr] hA H rfl ?_ (ht := ⟨_, Try.underlying29⟩)
    rw [dropL_end (by omega), List.append_nil] at hi; subst hi; exact ⟨_, rfl, rd_two (H.give 1 rfl) (H.give 0 rfl), H.below⟩

set_option maxRecDepth 100000 in
set_option maxHeartbeats 1000000 in
theorem rand_any (va vb : Value) (la lb : List Int) (o : Orig) (gA : Rd (· < o.w.heap.size) o.w va la) (gB : Rd (· < o.w.heap.size) o.w vb lb) (hs : la.length ≤ 1000000) :
  Calls Try.prog 43 [va, vb].toArray o.w (Giv o (fun S v w' => Rd S w' v (andL la lb))) := by
  refine enter Try.f43 27 Try.func43 fun a hA => ?_
  replace hA := env_sub [(0, va), (1, vb)] hA
  have H := Fr.start o
  refine go_seq fun K1 hK1 => ?_
  refine q_reg [] [(0, va), (1, vb)] ((True) ∧ True) hA H ⟨trivial, trivial⟩ fun a w2 hA H hG => ?_
  refine hK1 _ _ ?_
  refine go_seq fun K3 hK3 => ?_
  refine q_reg [] [(0, va), (1, vb), (5, (.slice none 0 0))] ((True) ∧ True) hA H ⟨trivial, trivial⟩ fun a w4 hA H hG => ?_
  refine hK3 _ _ ?_
  refine go_seq fun K5 hK5 => ?_
  refine go_seq fun K6 hK6 => ?_
  refine q_reg [] [(0, va), (1, vb), (5, (.slice none 0 0)), (6, .int .i64 0)] ((True) ∧ True) hA H ⟨trivial, trivial⟩ fun a w7 hA H hG => ?_
  refine hK6 _ _ ?_
  refine go_block 0 ?_
  replace H := H.newRow (α := Int) 3
  refine go_loop_ (Int × Value × List Int) (fun x_ a W => (fun (i : Int) (vr : Value) (l : List Int) => EnvOk 27 a (keepEnv [(0, va), (1, vb), (5, vr), (6, .int .i64 i)]) ∧ (∃ S, Fr o W S [.row 3 vr l]) ∧ 0 ≤ i ∧ (l.length : Int) ≤ i ∧ l ++ andL (la.drop i.toNat) lb = andL la lb) x_.1 x_.2.1 x_.2.2) (fun x_ => (fun (i : Int) (vr : Value) (l : List Int) => ((la.length : Int) - i).toNat) x_.1 x_.2.1 x_.2.2) (0, .slice none 0 0, []) ?_ (fun x_ a w9 hI => ?_)
  · (try dsimp only); exact ⟨env_sub _ hA, ⟨_, H⟩, by omega, by simp, by simp⟩
  obtain ⟨i, vr, l⟩ := x_
  obtain ⟨hA, ⟨S, H⟩, h0, h1, hi⟩ := hI
  try dsimp only at h0 h1 hi
  refine go_seq fun K10 hK10 => ?_
  refine go_seq fun K11 hK11 => ?_
  refine q_reg [(9, .int .i64 (la.length : Int))] [(0, va), (1, vb), (5, vr), (6, .int .i64 i), (10, .bool (decide (i < (la.length : Int))))] ((True) ∧ (True) ∧ (LenOk va (la.length : Int)) ∧ (True) ∧ True) hA H ⟨trivial, trivial, by exact len_ok (H.arg gA), trivial, trivial⟩ fun a w12 hA H hG => ?_
  refine hK11 _ _ ?_
  refine go_cond hA (.tmp 10) (decide (i < (la.length : Int))) (fun hb13 => ?_) (fun hb13 => ?_)
  · have hhb13 := of_decide_eq_true hb13
    refine go_skip ?_
    refine hK10 _ _ ?_
    refine go_seq fun K14 hK14 => ?_
    refine go_block 1 ?_
    refine go_seq fun K15 hK15 => ?_
    refine q_reg [(17, .int .i64 (la.getD i.toNat 0)), (18, .bool (decide ((la.getD i.toNat 0) ∈ lb)))] [(0, va), (1, vb), (5, vr), (6, .int .i64 i), (18, .bool (decide ((la.getD i.toNat 0) ∈ lb)))] ((True) ∧ (True) ∧ (True) ∧ ((Try.prog.info? 3).isSome = true ∧ IdxOk va i) ∧ (CellOk (On w12) (hdB va) (hdO va + i.toNat * 1) (.int .i64 (la.getD i.toNat 0))) ∧ (Callable Try.prog 24 ∧ CallOk Try.prog (On w12) 24 [vb, .int .i64 (la.getD i.toNat 0)].toArray (.bool (decide ((la.getD i.toNat 0) ∈ lb)))) ∧ True) hA H ⟨trivial, trivial, trivial, ⟨by kernel_rfl, by exact idx_ok (H.arg gA) (by omega) (by omega)⟩, by exact cell_flat (i := i) (H.arg gA) (by omega) (by omega) 0 0, ⟨callable_of, callOk_of fun w hw => by exact in_any vb lb (la.getD i.toNat 0) w (((H.on hw).arg gB))⟩, trivial⟩ fun a w16 hA H hG => ?_
    refine hK15 _ _ ?_
    refine go_cond hA (.tmp 18) (decide ((la.getD i.toNat 0) ∈ lb)) (fun hb17 => ?_) (fun hb17 => ?_)
    · have hhb17 := of_decide_eq_true hb17
      refine region_list ?_
      refine q_list 0 5 [(23, .int .i64 (la.getD i.toNat 0))] [(0, va), (1, vb), (6, .int .i64 i), (19, vr), (23, .int .i64 (la.getD i.toNat 0))] ((True) ∧ (True) ∧ (True) ∧ ((Try.prog.info? 3).isSome = true ∧ IdxOk va i) ∧ (CellOk (On w16) (hdB va) (hdO va + i.toNat * 1) (.int .i64 (la.getD i.toNat 0))) ∧ True) hA H ⟨trivial, trivial, trivial, ⟨by kernel_rfl, by exact idx_ok (H.arg gA) (by omega) (by omega)⟩, by exact cell_flat (i := i) (H.arg gA) (by omega) (by omega) 0 0, trivial⟩ fun a w18 hA H hG => ?_
      refine list_at 5 ?_; refine q_lit 5 24 27 1 #[(0, .tmp 23)] 3 [(0, .int .i64 (la.getD i.toNat 0))] [.int .i64 (la.getD i.toNat 0)] [(0, va), (1, vb), (6, .int .i64 i), (19, vr)] hA H fun b19 a w20 H hA hG hge_b19 => ?_
      clear hge_b19
      refine list_at 6 ?_; refine q_push 6 25 (.tmp 19) (.tmp 24) 1 0 b19 1 1 vr l [(la.getD i.toNat 0)] [.int .i64 (la.getD i.toNat 0)] [(0, va), (1, vb), (6, .int .i64 i)] hA H Try.E27 rfl rfl (by exact (RowRd.single (α := Int) rfl)) rfl (by simp only [List.length_cons, List.length_nil, List.length_append]; omega) (by decide) fun v21 a w22 H hA hG => ?_
      replace H : Fr _ _ _ [.row 3 v21 (l ++ [(la.getD i.toNat 0)])] := H.drop 0
      refine q_list 7 1 [] [(0, va), (1, vb), (5, v21), (6, .int .i64 i)] ((True) ∧ True) hA H ⟨trivial, trivial⟩ fun a w23 hA H hG => ?_
      refine list_end ?_
      refine hK14 _ _ ?_
      refine q_reg [] [(0, va), (1, vb), (5, v21), (6, .int .i64 (i + 1))] ((True) ∧ (InR .i64 (i + 1)) ∧ (True) ∧ True) hA H ⟨trivial, ⟨by omega, by omega⟩, trivial, trivial⟩ fun a w24 hA H hG => ?_
      refine ⟨(i + 1, v21, l ++ [(la.getD i.toNat 0)]), ⟨env_sub _ hA, ⟨_, H⟩, ?_⟩, ?_⟩
      · (try dsimp only); refine ⟨by omega, by (try simp only [List.length_append, List.length_cons, List.length_nil]); omega, by rw [andL_round h0 (by omega)] at hi; simp only [hhb17, if_true, if_false, List.nil_append] at hi; (try simp only [List.append_assoc] at hi ⊢); exact hi⟩
      · (try dsimp only); omega
    · have hhb17 := of_decide_eq_false hb17
      refine go_skip ?_
      refine hK14 _ _ ?_
      refine q_reg [] [(0, va), (1, vb), (5, vr), (6, .int .i64 (i + 1))] ((True) ∧ (InR .i64 (i + 1)) ∧ (True) ∧ True) hA H ⟨trivial, ⟨by omega, by omega⟩, trivial, trivial⟩ fun a w25 hA H hG => ?_
      refine ⟨(i + 1, vr, l), ⟨env_sub _ hA, ⟨_, H⟩, ?_⟩, ?_⟩
      · (try dsimp only); refine ⟨by omega, by (try simp only [List.length_append, List.length_cons, List.length_nil]); omega, by rw [andL_round h0 (by omega)] at hi; simp only [hhb17, if_true, if_false, List.nil_append] at hi; (try simp only [List.append_assoc] at hi ⊢); exact hi⟩
      · (try dsimp only); omega
  · have hhb13 := of_decide_eq_false hb13
    refine go_exit 0 ?_
    refine hK5 _ _ ?_
    refine go_seq fun K26 hK26 => ?_
    refine q_reg [] [(4, vr)] ((True) ∧ (True) ∧ True) hA H ⟨trivial, trivial, trivial⟩ fun a w27 hA H hG => ?_
    refine hK26 _ _ ?_
    refine go_ret_ ?_
    refine ret_one 4 vr hA ?_
    have ho := (H.give 0 rfl)
    rw [andL_end (by omega), List.append_nil] at hi; subst hi; exact ⟨_, rfl, ho, H.below⟩

set_option maxRecDepth 100000 in
set_option maxHeartbeats 1000000 in
theorem ror_any (va vb : Value) (la lb : List Int) (o : Orig) (gA : Rd (· < o.w.heap.size) o.w va la) (gB : Rd (· < o.w.heap.size) o.w vb lb) (hs : la.length ≤ 1000000) (hs2 : lb.length ≤ 1000000) :
  Calls Try.prog 44 [va, vb].toArray o.w (Giv o (fun S v w' => Rd S w' v (mergeL la lb 1))) := by
  refine enter Try.f44 75 Try.func44 fun a hA => ?_
  replace hA := env_sub [(0, va), (1, vb)] hA
  have H := Fr.start o
  refine go_seq fun K1 hK1 => ?_
  refine q_reg [] [(0, va), (1, vb)] ((True) ∧ True) hA H ⟨trivial, trivial⟩ fun a w2 hA H hG => ?_
  refine hK1 _ _ ?_
  refine go_seq fun K3 hK3 => ?_
  refine q_reg [] [(0, va), (1, vb), (5, (.slice none 0 0))] ((True) ∧ True) hA H ⟨trivial, trivial⟩ fun a w4 hA H hG => ?_
  refine hK3 _ _ ?_
  refine go_seq fun K5 hK5 => ?_
  refine q_reg [] [(0, va), (1, vb), (5, (.slice none 0 0)), (6, .int .i64 0), (7, .int .i64 0)] ((True) ∧ (True) ∧ True) hA H ⟨trivial, trivial, trivial⟩ fun a w6 hA H hG => ?_
  refine hK5 _ _ ?_
  refine go_seq fun K7 hK7 => ?_
  refine go_block 0 ?_
  replace H := H.newRow (α := Int) 3
  refine go_loop_ (Int × Int × Value × List Int) (fun x_ a W => (fun (i : Int) (k : Int) (vr : Value) (l : List Int) => EnvOk 75 a (keepEnv [(0, va), (1, vb), (5, vr), (6, .int .i64 i), (7, .int .i64 k)]) ∧ (∃ S, Fr o W S [.row 3 vr l]) ∧ 0 ≤ i ∧ 0 ≤ k ∧ i ≤ (la.length : Int) ∧ k ≤ (lb.length : Int) ∧ (l.length : Int) ≤ i + k ∧ l ++ orW la lb i k = mergeL la lb 1) x_.1 x_.2.1 x_.2.2.1 x_.2.2.2) (fun x_ => (fun (i : Int) (k : Int) (vr : Value) (l : List Int) => ((la.length : Int) - i + (lb.length : Int) - k).toNat) x_.1 x_.2.1 x_.2.2.1 x_.2.2.2) (0, 0, .slice none 0 0, []) ?_ (fun x_ a w9 hI => ?_)
  · (try dsimp only); exact ⟨env_sub _ hA, ⟨_, H⟩, by omega, by omega, by omega, by omega, by simp, rfl⟩
  obtain ⟨i, k, vr, l⟩ := x_
  obtain ⟨hA, ⟨S, H⟩, h0, h0b, h1, h1b, h2, hi⟩ := hI
  try dsimp only at h0 h0b h1 h1b h2 hi
  refine go_seq fun K10 hK10 => ?_
  refine go_seq fun K11 hK11 => ?_
  refine q_reg [(10, .int .i64 (la.length : Int)), (15, .int .i64 (lb.length : Int))] [(0, va), (1, vb), (5, vr), (6, .int .i64 i), (7, .int .i64 k), (17, .bool ((decide (i < (la.length : Int))) || (decide (k < (lb.length : Int)))))] ((True) ∧ (True) ∧ (LenOk va (la.length : Int)) ∧ (True) ∧ (True) ∧ ((decide (i < (la.length : Int))) = false → True) ∧ ((decide (i < (la.length : Int))) = false → True) ∧ ((decide (i < (la.length : Int))) = false → LenOk vb (lb.length : Int)) ∧ ((decide (i < (la.length : Int))) = false → True) ∧ (True) ∧ True) hA H ⟨trivial, trivial, by exact len_ok (H.arg gA), trivial, trivial, fun _ => trivial, fun _ => trivial, fun _ => by exact len_ok (H.arg gB), fun _ => trivial, trivial, trivial⟩ fun a w12 hA H hG => ?_
  refine hK11 _ _ ?_
  refine go_cond hA (.tmp 17) ((decide (i < (la.length : Int))) || (decide (k < (lb.length : Int)))) (fun hb13 => ?_) (fun hb13 => ?_)
  · have hhb13 := (oT hb13).imp (fun h => of_decide_eq_true h) (fun h => of_decide_eq_true h)
    refine go_skip ?_
    refine hK10 _ _ ?_
    refine go_block 1 ?_
    refine go_seq fun K14 hK14 => ?_
    refine q_draw [(20, .int .i64 (lb.length : Int)), (25, .int .i64 (la.length : Int)), (31, .int .i64 (la.getD i.toNat 0)), (35, .int .i64 (lb.getD k.toNat 0))] [(0, va), (1, vb), (5, vr), (6, .int .i64 i), (7, .int .i64 k), (38, .bool ((decide (k = (lb.length : Int))) || ((decide (i < (la.length : Int))) && (decide ((la.getD i.toNat 0) ≤ (lb.getD k.toNat 0))))))] ((True) ∧ (True) ∧ (LenOk vb (lb.length : Int)) ∧ (True) ∧ (True) ∧ ((decide (k = (lb.length : Int))) = false → True) ∧ ((decide (k = (lb.length : Int))) = false → True) ∧ ((decide (k = (lb.length : Int))) = false → LenOk va (la.length : Int)) ∧ ((decide (k = (lb.length : Int))) = false → True) ∧ ((decide (k = (lb.length : Int))) = false → True) ∧ ((decide (k = (lb.length : Int))) = false → (decide (i < (la.length : Int))) = true → True) ∧ ((decide (k = (lb.length : Int))) = false → (decide (i < (la.length : Int))) = true → True) ∧ ((decide (k = (lb.length : Int))) = false → (decide (i < (la.length : Int))) = true → (Try.prog.info? 3).isSome = true ∧ IdxOk va i) ∧ ((decide (k = (lb.length : Int))) = false → (decide (i < (la.length : Int))) = true → CellOk (On w12) (hdB va) (hdO va + i.toNat * 1) (.int .i64 (la.getD i.toNat 0))) ∧ ((decide (k = (lb.length : Int))) = false → (decide (i < (la.length : Int))) = true → True) ∧ ((decide (k = (lb.length : Int))) = false → (decide (i < (la.length : Int))) = true → True) ∧ ((decide (k = (lb.length : Int))) = false → (decide (i < (la.length : Int))) = true → (Try.prog.info? 3).isSome = true ∧ IdxOk vb k) ∧ ((decide (k = (lb.length : Int))) = false → (decide (i < (la.length : Int))) = true → CellOk (On w12) (hdB vb) (hdO vb + k.toNat * 1) (.int .i64 (lb.getD k.toNat 0))) ∧ ((decide (k = (lb.length : Int))) = false → (decide (i < (la.length : Int))) = true → True) ∧ ((decide (k = (lb.length : Int))) = false → True) ∧ (True) ∧ True) hA H ⟨trivial, trivial, by exact len_ok (H.arg gB), trivial, trivial, fun _ => trivial, fun _ => trivial, fun _ => by exact len_ok (H.arg gA), fun _ => trivial, fun _ => trivial, fun _ _ => trivial, fun _ _ => trivial, fun hg0 hg1 => by replace hg0 := of_decide_eq_false hg0; replace hg1 := of_decide_eq_true hg1; exact ⟨by kernel_rfl, by exact idx_ok (H.arg gA) (by omega) (by omega)⟩, fun hg0 hg1 => by replace hg0 := of_decide_eq_false hg0; replace hg1 := of_decide_eq_true hg1; exact by exact cell_flat (i := i) (H.arg gA) (by omega) (by omega) 0 0, fun _ _ => trivial, fun _ _ => trivial, fun hg0 hg1 => by replace hg0 := of_decide_eq_false hg0; replace hg1 := of_decide_eq_true hg1; exact ⟨by kernel_rfl, by exact idx_ok (H.arg gB) (by omega) (by omega)⟩, fun hg0 hg1 => by replace hg0 := of_decide_eq_false hg0; replace hg1 := of_decide_eq_true hg1; exact by exact cell_flat (i := k) (H.arg gB) (by omega) (by omega) 0 0, fun _ _ => trivial, fun _ => trivial, trivial, trivial⟩ fun a w15 hA H hG => ?_
    refine hK14 _ _ ?_
    refine go_cond hA (.tmp 38) ((decide (k = (lb.length : Int))) || ((decide (i < (la.length : Int))) && (decide ((la.getD i.toNat 0) ≤ (lb.getD k.toNat 0))))) (fun hb16 => ?_) (fun hb16 => ?_)
    · have hhb16 := (oT hb16).imp (fun h => of_decide_eq_true h) (fun h => (⟨of_decide_eq_true ((aT h).1), of_decide_eq_true ((aT h).2)⟩ : _ ∧ _))
      refine go_seq fun K17 hK17 => ?_
      refine go_seq fun K18 hK18 => ?_
      refine q_draw [(41, .int .i64 (lb.length : Int)), (47, .int .i64 (la.getD i.toNat 0)), (51, .int .i64 (lb.getD k.toNat 0))] [(0, va), (1, vb), (5, vr), (6, .int .i64 i), (7, .int .i64 k), (53, .bool ((decide (k < (lb.length : Int))) && (decide ((la.getD i.toNat 0) = (lb.getD k.toNat 0)))))] ((True) ∧ (True) ∧ (LenOk vb (lb.length : Int)) ∧ (True) ∧ (True) ∧ ((decide (k < (lb.length : Int))) = true → True) ∧ ((decide (k < (lb.length : Int))) = true → True) ∧ ((decide (k < (lb.length : Int))) = true → (Try.prog.info? 3).isSome = true ∧ IdxOk va i) ∧ ((decide (k < (lb.length : Int))) = true → CellOk (On w15) (hdB va) (hdO va + i.toNat * 1) (.int .i64 (la.getD i.toNat 0))) ∧ ((decide (k < (lb.length : Int))) = true → True) ∧ ((decide (k < (lb.length : Int))) = true → True) ∧ ((decide (k < (lb.length : Int))) = true → (Try.prog.info? 3).isSome = true ∧ IdxOk vb k) ∧ ((decide (k < (lb.length : Int))) = true → CellOk (On w15) (hdB vb) (hdO vb + k.toNat * 1) (.int .i64 (lb.getD k.toNat 0))) ∧ ((decide (k < (lb.length : Int))) = true → True) ∧ (True) ∧ True) hA H ⟨trivial, trivial, by exact len_ok (H.arg gB), trivial, trivial, fun _ => trivial, fun _ => trivial, fun hg0 => by replace hg0 := of_decide_eq_true hg0; exact ⟨by kernel_rfl, by exact idx_ok (H.arg gA) (by omega) (by omega)⟩, fun hg0 => by replace hg0 := of_decide_eq_true hg0; exact by exact cell_flat (i := i) (H.arg gA) (by omega) (by omega) 0 0, fun _ => trivial, fun _ => trivial, fun hg0 => by replace hg0 := of_decide_eq_true hg0; exact ⟨by kernel_rfl, by exact idx_ok (H.arg gB) (by omega) (by omega)⟩, fun hg0 => by replace hg0 := of_decide_eq_true hg0; exact by exact cell_flat (i := k) (H.arg gB) (by omega) (by omega) 0 0, fun _ => trivial, trivial, trivial⟩ fun a w19 hA H hG => ?_
      refine hK18 _ _ ?_
      refine go_cond hA (.tmp 53) ((decide (k < (lb.length : Int))) && (decide ((la.getD i.toNat 0) = (lb.getD k.toNat 0)))) (fun hb20 => ?_) (fun hb20 => ?_)
      · have hhb20 := (⟨of_decide_eq_true ((aT hb20).1), of_decide_eq_true ((aT hb20).2)⟩ : _ ∧ _)
        refine q_reg [] [(0, va), (1, vb), (5, vr), (6, .int .i64 i), (7, .int .i64 (k + 1))] ((True) ∧ (InR .i64 (k + 1)) ∧ (True) ∧ True) hA H ⟨trivial, ⟨by omega, by omega⟩, trivial, trivial⟩ fun a w21 hA H hG => ?_
        refine hK17 _ _ ?_
        refine go_seq fun K22 hK22 => ?_
        refine region_list ?_
        refine q_list 0 5 [(60, .int .i64 (la.getD i.toNat 0))] [(0, va), (1, vb), (6, .int .i64 i), (7, .int .i64 (k + 1)), (56, vr), (60, .int .i64 (la.getD i.toNat 0))] ((True) ∧ (True) ∧ (True) ∧ ((Try.prog.info? 3).isSome = true ∧ IdxOk va i) ∧ (CellOk (On w21) (hdB va) (hdO va + i.toNat * 1) (.int .i64 (la.getD i.toNat 0))) ∧ True) hA H ⟨trivial, trivial, trivial, ⟨by kernel_rfl, by exact idx_ok (H.arg gA) (by omega) (by omega)⟩, by exact cell_flat (i := i) (H.arg gA) (by omega) (by omega) 0 0, trivial⟩ fun a w23 hA H hG => ?_
        refine list_at 5 ?_; refine q_lit 5 61 27 1 #[(0, .tmp 60)] 3 [(0, .int .i64 (la.getD i.toNat 0))] [.int .i64 (la.getD i.toNat 0)] [(0, va), (1, vb), (6, .int .i64 i), (7, .int .i64 (k + 1)), (56, vr)] hA H fun b24 a w25 H hA hG hge_b24 => ?_
        clear hge_b24
        refine list_at 6 ?_; refine q_push 6 62 (.tmp 56) (.tmp 61) 1 0 b24 1 1 vr l [(la.getD i.toNat 0)] [.int .i64 (la.getD i.toNat 0)] [(0, va), (1, vb), (6, .int .i64 i), (7, .int .i64 (k + 1))] hA H Try.E27 rfl rfl (by exact (RowRd.single (α := Int) rfl)) rfl (by simp only [List.length_cons, List.length_nil, List.length_append]; omega) (by decide) fun v26 a w27 H hA hG => ?_
        replace H : Fr _ _ _ [.row 3 v26 (l ++ [(la.getD i.toNat 0)])] := H.drop 0
        refine q_list 7 1 [] [(0, va), (1, vb), (5, v26), (6, .int .i64 i), (7, .int .i64 (k + 1))] ((True) ∧ True) hA H ⟨trivial, trivial⟩ fun a w28 hA H hG => ?_
        refine list_end ?_
        refine hK22 _ _ ?_
        refine q_reg [] [(0, va), (1, vb), (5, v26), (6, .int .i64 (i + 1)), (7, .int .i64 (k + 1))] ((True) ∧ (InR .i64 (i + 1)) ∧ (True) ∧ True) hA H ⟨trivial, ⟨by omega, by omega⟩, trivial, trivial⟩ fun a w29 hA H hG => ?_
        refine ⟨(i + 1, k + 1, v26, l ++ [(la.getD i.toNat 0)]), ⟨env_sub _ hA, ⟨_, H⟩, ?_⟩, ?_⟩
        · (try dsimp only); exact ⟨by omega, by omega, by omega, by omega, by (try simp only [List.length_append, List.length_cons, List.length_nil]); omega, by rw [orW_round h0 h0b (by omega)] at hi; (repeat' split at hi) <;> first | (exfalso; omega) | ((try simp only [List.append_assoc] at hi ⊢); exact hi)⟩
        · (try dsimp only); omega
      · have hhb20 := (aF hb20).imp (fun h => of_decide_eq_false h) (fun h => of_decide_eq_false h)
        refine go_skip ?_
        refine hK17 _ _ ?_
        refine go_seq fun K30 hK30 => ?_
        refine region_list ?_
        refine q_list 0 5 [(60, .int .i64 (la.getD i.toNat 0))] [(0, va), (1, vb), (6, .int .i64 i), (7, .int .i64 k), (56, vr), (60, .int .i64 (la.getD i.toNat 0))] ((True) ∧ (True) ∧ (True) ∧ ((Try.prog.info? 3).isSome = true ∧ IdxOk va i) ∧ (CellOk (On w19) (hdB va) (hdO va + i.toNat * 1) (.int .i64 (la.getD i.toNat 0))) ∧ True) hA H ⟨trivial, trivial, trivial, ⟨by kernel_rfl, by exact idx_ok (H.arg gA) (by omega) (by omega)⟩, by exact cell_flat (i := i) (H.arg gA) (by omega) (by omega) 0 0, trivial⟩ fun a w31 hA H hG => ?_
        refine list_at 5 ?_; refine q_lit 5 61 27 1 #[(0, .tmp 60)] 3 [(0, .int .i64 (la.getD i.toNat 0))] [.int .i64 (la.getD i.toNat 0)] [(0, va), (1, vb), (6, .int .i64 i), (7, .int .i64 k), (56, vr)] hA H fun b32 a w33 H hA hG hge_b32 => ?_
        clear hge_b32
        refine list_at 6 ?_; refine q_push 6 62 (.tmp 56) (.tmp 61) 1 0 b32 1 1 vr l [(la.getD i.toNat 0)] [.int .i64 (la.getD i.toNat 0)] [(0, va), (1, vb), (6, .int .i64 i), (7, .int .i64 k)] hA H Try.E27 rfl rfl (by exact (RowRd.single (α := Int) rfl)) rfl (by simp only [List.length_cons, List.length_nil, List.length_append]; omega) (by decide) fun v34 a w35 H hA hG => ?_
        replace H : Fr _ _ _ [.row 3 v34 (l ++ [(la.getD i.toNat 0)])] := H.drop 0
        refine q_list 7 1 [] [(0, va), (1, vb), (5, v34), (6, .int .i64 i), (7, .int .i64 k)] ((True) ∧ True) hA H ⟨trivial, trivial⟩ fun a w36 hA H hG => ?_
        refine list_end ?_
        refine hK30 _ _ ?_
        refine q_reg [] [(0, va), (1, vb), (5, v34), (6, .int .i64 (i + 1)), (7, .int .i64 k)] ((True) ∧ (InR .i64 (i + 1)) ∧ (True) ∧ True) hA H ⟨trivial, ⟨by omega, by omega⟩, trivial, trivial⟩ fun a w37 hA H hG => ?_
        refine ⟨(i + 1, k, v34, l ++ [(la.getD i.toNat 0)]), ⟨env_sub _ hA, ⟨_, H⟩, ?_⟩, ?_⟩
        · (try dsimp only); exact ⟨by omega, by omega, by omega, by omega, by (try simp only [List.length_append, List.length_cons, List.length_nil]); omega, by rw [orW_round h0 h0b (by omega)] at hi; (repeat' split at hi) <;> first | (exfalso; omega) | ((try simp only [List.append_assoc] at hi ⊢); exact hi)⟩
        · (try dsimp only); omega
    · have hhb16 := (⟨of_decide_eq_false ((oF hb16).1), (aF ((oF hb16).2)).imp (fun h => of_decide_eq_false h) (fun h => of_decide_eq_false h)⟩ : _ ∧ _)
      refine go_seq fun K38 hK38 => ?_
      refine region_list ?_
      refine q_list 0 5 [(69, .int .i64 (lb.getD k.toNat 0))] [(0, va), (1, vb), (6, .int .i64 i), (7, .int .i64 k), (65, vr), (69, .int .i64 (lb.getD k.toNat 0))] ((True) ∧ (True) ∧ (True) ∧ ((Try.prog.info? 3).isSome = true ∧ IdxOk vb k) ∧ (CellOk (On w15) (hdB vb) (hdO vb + k.toNat * 1) (.int .i64 (lb.getD k.toNat 0))) ∧ True) hA H ⟨trivial, trivial, trivial, ⟨by kernel_rfl, by exact idx_ok (H.arg gB) (by omega) (by omega)⟩, by exact cell_flat (i := k) (H.arg gB) (by omega) (by omega) 0 0, trivial⟩ fun a w39 hA H hG => ?_
      refine list_at 5 ?_; refine q_lit 5 70 27 1 #[(0, .tmp 69)] 3 [(0, .int .i64 (lb.getD k.toNat 0))] [.int .i64 (lb.getD k.toNat 0)] [(0, va), (1, vb), (6, .int .i64 i), (7, .int .i64 k), (65, vr)] hA H fun b40 a w41 H hA hG hge_b40 => ?_
      clear hge_b40
      refine list_at 6 ?_; refine q_push 6 71 (.tmp 65) (.tmp 70) 1 0 b40 1 1 vr l [(lb.getD k.toNat 0)] [.int .i64 (lb.getD k.toNat 0)] [(0, va), (1, vb), (6, .int .i64 i), (7, .int .i64 k)] hA H Try.E27 rfl rfl (by exact (RowRd.single (α := Int) rfl)) rfl (by simp only [List.length_cons, List.length_nil, List.length_append]; omega) (by decide) fun v42 a w43 H hA hG => ?_
      replace H : Fr _ _ _ [.row 3 v42 (l ++ [(lb.getD k.toNat 0)])] := H.drop 0
      refine q_list 7 1 [] [(0, va), (1, vb), (5, v42), (6, .int .i64 i), (7, .int .i64 k)] ((True) ∧ True) hA H ⟨trivial, trivial⟩ fun a w44 hA H hG => ?_
      refine list_end ?_
      refine hK38 _ _ ?_
      refine q_reg [] [(0, va), (1, vb), (5, v42), (6, .int .i64 i), (7, .int .i64 (k + 1))] ((True) ∧ (InR .i64 (k + 1)) ∧ (True) ∧ True) hA H ⟨trivial, ⟨by omega, by omega⟩, trivial, trivial⟩ fun a w45 hA H hG => ?_
      refine ⟨(i, k + 1, v42, l ++ [(lb.getD k.toNat 0)]), ⟨env_sub _ hA, ⟨_, H⟩, ?_⟩, ?_⟩
      · (try dsimp only); exact ⟨by omega, by omega, by omega, by omega, by (try simp only [List.length_append, List.length_cons, List.length_nil]); omega, by rw [orW_round h0 h0b (by omega)] at hi; (repeat' split at hi) <;> first | (exfalso; omega) | ((try simp only [List.append_assoc] at hi ⊢); exact hi)⟩
      · (try dsimp only); omega
  · have hhb13 := (⟨of_decide_eq_false ((oF hb13).1), of_decide_eq_false ((oF hb13).2)⟩ : _ ∧ _)
    refine go_exit 0 ?_
    refine hK7 _ _ ?_
    refine go_seq fun K46 hK46 => ?_
    refine q_reg [] [(4, vr)] ((True) ∧ (True) ∧ True) hA H ⟨trivial, trivial, trivial⟩ fun a w47 hA H hG => ?_
    refine hK46 _ _ ?_
    refine go_ret_ ?_
    refine ret_one 4 vr hA ?_
    have ho := (H.give 0 rfl)
    rw [orW_end (by omega), List.append_nil] at hi; subst hi; exact ⟨_, rfl, ho, H.below⟩

end Go.Proofs.Ytahonnlgkmimlaa
