/-
  Walks, written by program: Equal, REqual, Same, RSame, all_, Within, In, Rises, RRight, RRightPart, Twin, Tail, Head, Small.
-/
import Derived.Test.YtahonnlgkmimlaaProg
import Derived.Test.YtahonnlgkmimlaaWalkG2
import Derived.Test.YtahonnlgkmimlaaTabG
import Derived.Test.YtahonnlgkmimlaaEngK
set_option linter.unusedSimpArgs false
set_option linter.unusedVariables false
namespace Go.Proofs.Ytahonnlgkmimlaa
open Go.RowKit

set_option maxRecDepth 100000 in
set_option maxHeartbeats 1000000 in
theorem equal_any (v u : Value) (l m : List Int) (w : World) (hl : Rd (· < w.heap.size) w v l) (hm : Rd (· < w.heap.size) w u m) :
  Calls Try.prog 76 [v, u].toArray w (Ans (.bool (decide (l = m))) w) := by
  have hlen := rd_len hl
  refine enter Try.f76 26 Try.func76 fun a hA => ?_
  replace hA := env_sub [(0, v), (1, u)] hA
  have H := Fr.start (org w)
  refine go_seq fun K1 hK1 => ?_
  refine q_reg [] [(0, v), (1, u)] ((True) ∧ True) hA H ⟨trivial, trivial⟩ fun a w2 hA H _ => ?_
  refine hK1 _ _ ?_
  refine go_seq fun K3 hK3 => ?_
  refine go_seq fun K4 hK4 => ?_
  refine q_reg [(7, .int .i64 (l.length : Int)), (9, .int .i64 (m.length : Int))] [(0, v), (1, u), (10, .bool (!decide ((l.length : Int) = (m.length : Int))))] ((True) ∧ (LenOk v (l.length : Int)) ∧ (True) ∧ (LenOk u (m.length : Int)) ∧ (True) ∧ True) hA H ⟨trivial, by exact len_ok (H.arg hl), trivial, by exact len_ok (H.arg hm), trivial, trivial⟩ fun a w5 hA H _ => ?_
  refine hK4 _ _ ?_
  refine go_cond hA (.tmp 10) (!decide ((l.length : Int) = (m.length : Int))) (fun hb6 => ?_) (fun hb6 => ?_)
  · have hhb6 := of_decide_eq_false (nT hb6)
    refine go_seq fun K7 hK7 => ?_
    refine q_reg [] [(4, .bool false)] ((True) ∧ True) hA H ⟨trivial, trivial⟩ fun a w8 hA H _ => ?_
    refine hK7 _ _ ?_
    refine go_ret_ ?_
    refine ret_one 4 (.bool false) hA ?_
    exact ans_b' ((decide_eq_false (fun q => hhb6 (by rw [q]))).symm) H.below
  · have hhb6 := of_decide_eq_true (nF hb6)
    refine go_skip ?_
    refine hK3 _ _ ?_
    refine go_seq fun K9 hK9 => ?_
    refine go_seq fun K10 hK10 => ?_
    refine q_reg [(12, .int .i64 (l.length : Int))] [(0, v), (1, u), (12, .int .i64 (l.length : Int)), (13, .int .i64 0)] ((True) ∧ (LenOk v (l.length : Int)) ∧ (True) ∧ True) hA H ⟨trivial, by exact len_ok (H.arg hl), trivial, trivial⟩ fun a w11 hA H _ => ?_
    refine hK10 _ _ ?_
    refine go_block 0 ?_
    refine go_loop_ (Int) (fun x_ a W => (fun (i : Int) => EnvOk 26 a (keepEnv [(0, v), (1, u), (12, .int .i64 (l.length : Int)), (13, .int .i64 i)]) ∧ (∃ S, Fr (org w) W S []) ∧ 0 ≤ i ∧ ∀ j : Nat, (j : Int) < i → l.getD j 0 = m.getD j 0) x_) (fun x_ => (fun (i : Int) => ((l.length : Int) - i).toNat) x_) (0) ?_ (fun i a w13 hI => ?_)
    · (try dsimp only); exact ⟨env_sub _ hA, ⟨_, H⟩, by omega, fun j hj => by omega⟩
    obtain ⟨hA, ⟨S, H⟩, h0, hok⟩ := hI
    try dsimp only at h0 hok
    refine go_seq fun K14 hK14 => ?_
    refine q_reg [] [(0, v), (1, u), (12, .int .i64 (l.length : Int)), (13, .int .i64 i), (14, .bool (decide (i < (l.length : Int))))] ((True) ∧ True) hA H ⟨trivial, trivial⟩ fun a w15 hA H _ => ?_
    refine hK14 _ _ ?_
    refine go_seq fun K16 hK16 => ?_
    refine go_cond hA (.tmp 14) (decide (i < (l.length : Int))) (fun hb17 => ?_) (fun hb17 => ?_)
    · have hhb17 := of_decide_eq_true hb17
      refine go_skip ?_
      refine hK16 _ _ ?_
      refine go_seq fun K18 hK18 => ?_
      refine go_block 1 ?_
      refine go_seq fun K19 hK19 => ?_
      refine q_reg [] [(0, v), (1, u), (5, .int .i64 i), (12, .int .i64 (l.length : Int)), (13, .int .i64 i)] ((True) ∧ (True) ∧ True) hA H ⟨trivial, trivial, trivial⟩ fun a w20 hA H _ => ?_
      refine hK19 _ _ ?_
      refine go_seq fun K21 hK21 => ?_
      refine q_draw [(19, .int .i64 (l.getD i.toNat 0)), (23, .int .i64 (m.getD i.toNat 0))] [(0, v), (1, u), (12, .int .i64 (l.length : Int)), (13, .int .i64 i), (24, .bool (!decide ((l.getD i.toNat 0) = (m.getD i.toNat 0))))] ((True) ∧ (True) ∧ ((Try.prog.info? 3).isSome = true ∧ IdxOk v i) ∧ (CellOk (On w20) (hdB v) (hdO v + i.toNat * 1) (.int .i64 (l.getD i.toNat 0))) ∧ (True) ∧ (True) ∧ ((Try.prog.info? 3).isSome = true ∧ IdxOk u i) ∧ (CellOk (On w20) (hdB u) (hdO u + i.toNat * 1) (.int .i64 (m.getD i.toNat 0))) ∧ (True) ∧ True) hA H ⟨trivial, trivial, ⟨by kernel_rfl, by exact idx_ok (H.arg hl) (by omega) (by omega)⟩, by exact cell_flat (i := i) (H.arg hl) (by omega) (by omega) 0 0, trivial, trivial, ⟨by kernel_rfl, by exact idx_ok (H.arg hm) (by omega) (by omega)⟩, by exact cell_flat (i := i) (H.arg hm) (by omega) (by omega) 0 0, trivial, trivial⟩ fun a w22 hA H _ => ?_
      refine hK21 _ _ ?_
      refine go_cond hA (.tmp 24) (!decide ((l.getD i.toNat 0) = (m.getD i.toNat 0))) (fun hb23 => ?_) (fun hb23 => ?_)
      · have hhb23 := of_decide_eq_false (nT hb23)
        refine go_seq fun K24 hK24 => ?_
        refine q_reg [] [(4, .bool false)] ((True) ∧ True) hA H ⟨trivial, trivial⟩ fun a w25 hA H _ => ?_
        refine hK24 _ _ ?_
        refine go_ret_ ?_
        refine ret_one 4 (.bool false) hA ?_
        exact ans_b' ((decide_eq_false (fun q => hhb23 (by rw [q]))).symm) H.below
      · have hhb23 := of_decide_eq_true (nF hb23)
        refine go_skip ?_
        refine hK18 _ _ ?_
        refine q_reg [] [(0, v), (1, u), (12, .int .i64 (l.length : Int)), (13, .int .i64 (i + 1))] ((InR .i64 (i + 1)) ∧ (True) ∧ True) hA H ⟨⟨by omega, by omega⟩, trivial, trivial⟩ fun a w26 hA H _ => ?_
        refine ⟨(i + 1), ⟨env_sub _ hA, ⟨_, H⟩, ?_⟩, ?_⟩
        · (try dsimp only); exact ⟨by omega, fun j hj => if e : (j : Int) = i then (by rw [show j = i.toNat by omega]; exact hhb23) else hok j (by omega)⟩
        · (try dsimp only); omega
    · have hhb17 := of_decide_eq_false hb17
      refine go_exit 0 ?_
      refine hK9 _ _ ?_
      refine go_seq fun K27 hK27 => ?_
      refine q_reg [] [(4, .bool true)] ((True) ∧ True) hA H ⟨trivial, trivial⟩ fun a w28 hA H _ => ?_
      refine hK27 _ _ ?_
      refine go_ret_ ?_
      refine ret_one 4 (.bool true) hA ?_
      exact ans_b' ((decide_eq_true (eq_of_getD hhb6 (fun j hj => hok j (by omega)))).symm) H.below

set_option maxRecDepth 100000 in
set_option maxHeartbeats 1000000 in
theorem requal_any (v u : Value) (l m : List Int) (w : World) (hl : Rd (· < w.heap.size) w v l) (hm : Rd (· < w.heap.size) w u m) :
  Calls Try.prog 36 [v, u].toArray w (Ans (.bool (decide (l = m))) w) := by
  have hlen := rd_len hl
  refine enter Try.f36 26 Try.func36 fun a hA => ?_
  replace hA := env_sub [(0, v), (1, u)] hA
  have H := Fr.start (org w)
  refine go_seq fun K1 hK1 => ?_
  refine q_reg [] [(0, v), (1, u)] ((True) ∧ True) hA H ⟨trivial, trivial⟩ fun a w2 hA H _ => ?_
  refine hK1 _ _ ?_
  refine go_seq fun K3 hK3 => ?_
  refine go_seq fun K4 hK4 => ?_
  refine q_reg [(7, .int .i64 (l.length : Int)), (9, .int .i64 (m.length : Int))] [(0, v), (1, u), (10, .bool (!decide ((l.length : Int) = (m.length : Int))))] ((True) ∧ (LenOk v (l.length : Int)) ∧ (True) ∧ (LenOk u (m.length : Int)) ∧ (True) ∧ True) hA H ⟨trivial, by exact len_ok (H.arg hl), trivial, by exact len_ok (H.arg hm), trivial, trivial⟩ fun a w5 hA H _ => ?_
  refine hK4 _ _ ?_
  refine go_cond hA (.tmp 10) (!decide ((l.length : Int) = (m.length : Int))) (fun hb6 => ?_) (fun hb6 => ?_)
  · have hhb6 := of_decide_eq_false (nT hb6)
    refine go_seq fun K7 hK7 => ?_
    refine q_reg [] [(4, .bool false)] ((True) ∧ True) hA H ⟨trivial, trivial⟩ fun a w8 hA H _ => ?_
    refine hK7 _ _ ?_
    refine go_ret_ ?_
    refine ret_one 4 (.bool false) hA ?_
    exact ans_b' ((decide_eq_false (fun q => hhb6 (by rw [q]))).symm) H.below
  · have hhb6 := of_decide_eq_true (nF hb6)
    refine go_skip ?_
    refine hK3 _ _ ?_
    refine go_seq fun K9 hK9 => ?_
    refine go_seq fun K10 hK10 => ?_
    refine q_reg [] [(0, v), (1, u), (5, .int .i64 0)] ((True) ∧ True) hA H ⟨trivial, trivial⟩ fun a w11 hA H _ => ?_
    refine hK10 _ _ ?_
    refine go_block 0 ?_
    refine go_loop_ (Int) (fun x_ a W => (fun (i : Int) => EnvOk 26 a (keepEnv [(0, v), (1, u), (5, .int .i64 i)]) ∧ (∃ S, Fr (org w) W S []) ∧ 0 ≤ i ∧ ∀ j : Nat, (j : Int) < i → l.getD j 0 = m.getD j 0) x_) (fun x_ => (fun (i : Int) => ((l.length : Int) - i).toNat) x_) (0) ?_ (fun i a w13 hI => ?_)
    · (try dsimp only); exact ⟨env_sub _ hA, ⟨_, H⟩, by omega, fun j hj => by omega⟩
    obtain ⟨hA, ⟨S, H⟩, h0, hok⟩ := hI
    try dsimp only at h0 hok
    refine go_seq fun K14 hK14 => ?_
    refine go_seq fun K15 hK15 => ?_
    refine q_reg [(13, .int .i64 (l.length : Int))] [(0, v), (1, u), (5, .int .i64 i), (14, .bool (decide (i < (l.length : Int))))] ((True) ∧ (True) ∧ (LenOk v (l.length : Int)) ∧ (True) ∧ True) hA H ⟨trivial, trivial, by exact len_ok (H.arg hl), trivial, trivial⟩ fun a w16 hA H _ => ?_
    refine hK15 _ _ ?_
    refine go_cond hA (.tmp 14) (decide (i < (l.length : Int))) (fun hb17 => ?_) (fun hb17 => ?_)
    · have hhb17 := of_decide_eq_true hb17
      refine go_skip ?_
      refine hK14 _ _ ?_
      refine go_seq fun K18 hK18 => ?_
      refine go_block 1 ?_
      refine go_seq fun K19 hK19 => ?_
      refine q_draw [(20, .int .i64 (l.getD i.toNat 0)), (24, .int .i64 (m.getD i.toNat 0))] [(0, v), (1, u), (5, .int .i64 i), (25, .bool (!decide ((l.getD i.toNat 0) = (m.getD i.toNat 0))))] ((True) ∧ (True) ∧ ((Try.prog.info? 3).isSome = true ∧ IdxOk v i) ∧ (CellOk (On w16) (hdB v) (hdO v + i.toNat * 1) (.int .i64 (l.getD i.toNat 0))) ∧ (True) ∧ (True) ∧ ((Try.prog.info? 3).isSome = true ∧ IdxOk u i) ∧ (CellOk (On w16) (hdB u) (hdO u + i.toNat * 1) (.int .i64 (m.getD i.toNat 0))) ∧ (True) ∧ True) hA H ⟨trivial, trivial, ⟨by kernel_rfl, by exact idx_ok (H.arg hl) (by omega) (by omega)⟩, by exact cell_flat (i := i) (H.arg hl) (by omega) (by omega) 0 0, trivial, trivial, ⟨by kernel_rfl, by exact idx_ok (H.arg hm) (by omega) (by omega)⟩, by exact cell_flat (i := i) (H.arg hm) (by omega) (by omega) 0 0, trivial, trivial⟩ fun a w20 hA H _ => ?_
      refine hK19 _ _ ?_
      refine go_cond hA (.tmp 25) (!decide ((l.getD i.toNat 0) = (m.getD i.toNat 0))) (fun hb21 => ?_) (fun hb21 => ?_)
      · have hhb21 := of_decide_eq_false (nT hb21)
        refine go_seq fun K22 hK22 => ?_
        refine q_reg [] [(4, .bool false)] ((True) ∧ True) hA H ⟨trivial, trivial⟩ fun a w23 hA H _ => ?_
        refine hK22 _ _ ?_
        refine go_ret_ ?_
        refine ret_one 4 (.bool false) hA ?_
        exact ans_b' ((decide_eq_false (fun q => hhb21 (by rw [q]))).symm) H.below
      · have hhb21 := of_decide_eq_true (nF hb21)
        refine go_skip ?_
        refine hK18 _ _ ?_
        refine q_reg [] [(0, v), (1, u), (5, .int .i64 (i + 1))] ((True) ∧ (InR .i64 (i + 1)) ∧ (True) ∧ True) hA H ⟨trivial, ⟨by omega, by omega⟩, trivial, trivial⟩ fun a w24 hA H _ => ?_
        refine ⟨(i + 1), ⟨env_sub _ hA, ⟨_, H⟩, ?_⟩, ?_⟩
        · (try dsimp only); exact ⟨by omega, fun j hj => if e : (j : Int) = i then (by rw [show j = i.toNat by omega]; exact hhb21) else hok j (by omega)⟩
        · (try dsimp only); omega
    · have hhb17 := of_decide_eq_false hb17
      refine go_exit 0 ?_
      refine hK9 _ _ ?_
      refine go_seq fun K25 hK25 => ?_
      refine q_reg [] [(4, .bool true)] ((True) ∧ True) hA H ⟨trivial, trivial⟩ fun a w26 hA H _ => ?_
      refine hK25 _ _ ?_
      refine go_ret_ ?_
      refine ret_one 4 (.bool true) hA ?_
      exact ans_b' ((decide_eq_true (eq_of_getD hhb6 (fun j hj => hok j (by omega)))).symm) H.below

set_option maxRecDepth 100000 in
set_option maxHeartbeats 1000000 in
theorem same_any (va ea vb eb : Value) (A B C D : List Int) (w : World) (gA : Rd (· < w.heap.size) w va A) (gB : Rd (· < w.heap.size) w ea B) (gC : Rd (· < w.heap.size) w vb C) (gD : Rd (· < w.heap.size) w eb D) :
  Calls Try.prog 28 [.agg #[va, ea], .agg #[vb, eb]].toArray w (Ans (.bool (decide (A = C) && decide (B = D))) w) := by
  refine enter Try.f28 17 Try.func28 fun a hA => ?_
  replace hA := env_sub [(0, .agg #[va, ea]), (1, .agg #[vb, eb])] hA
  have H := Fr.start (org w)
  refine go_seq fun K1 hK1 => ?_
  refine region_list ?_
  refine list_at 0 ?_; refine q_box 0 2 29 (.tmp 0) (.agg #[va, ea]) [va, ea] [(1, .agg #[vb, eb])] hA H fun b2 a w3 H hA hG hge_b2 => ?_
  clear hge_b2
  refine list_at 1 ?_; refine q_box 1 3 29 (.tmp 1) (.agg #[vb, eb]) [vb, eb] [(2, .pointer (some ⟨b2, 0, none⟩))] hA H fun b4 a w5 H hA hG hge_b4 => ?_
  clear hge_b4
  refine q_list 2 1 [] [(2, .pointer (some ⟨b2, 0, none⟩)), (3, .pointer (some ⟨b4, 0, none⟩))] ((True) ∧ True) hA H ⟨trivial, trivial⟩ fun a w6 hA H _ => ?_
  refine list_end ?_
  refine hK1 _ _ ?_
  refine go_seq fun K7 hK7 => ?_
  refine q_reg [(6, va), (8, vb), (9, .bool (decide (A = C))), (12, ea), (14, eb), (15, .bool (decide (B = D)))] [(4, .bool ((decide (A = C)) && (decide (B = D))))] ((0 < Try.prog.cellsOf 27) ∧ (CellOk (On w6) b2 (0 + 0) (va)) ∧ (0 < Try.prog.cellsOf 27) ∧ (CellOk (On w6) b4 (0 + 0) (vb)) ∧ (Callable Try.prog 76 ∧ CallOk Try.prog (On w6) 76 [va, vb].toArray (.bool (decide (A = C)))) ∧ (True) ∧ ((decide (A = C)) = true → 0 < Try.prog.cellsOf 27) ∧ ((decide (A = C)) = true → CellOk (On w6) b2 (0 + 1) (ea)) ∧ ((decide (A = C)) = true → 0 < Try.prog.cellsOf 27) ∧ ((decide (A = C)) = true → CellOk (On w6) b4 (0 + 1) (eb)) ∧ ((decide (A = C)) = true → Callable Try.prog 76 ∧ CallOk Try.prog (On w6) 76 [ea, eb].toArray (.bool (decide (B = D)))) ∧ (True) ∧ (True) ∧ True) hA H ⟨by decide +kernel, by exact box_cell H 1 rfl 0, by decide +kernel, by exact box_cell H 0 rfl 0, ⟨callable_of, callOk_of fun w hw => by exact equal_any va vb A C w (((H.on hw).arg gA)) (((H.on hw).arg gC))⟩, trivial, fun _ => by decide +kernel, fun _ => by exact box_cell H 1 rfl 1, fun _ => by decide +kernel, fun _ => by exact box_cell H 0 rfl 1, fun _ => ⟨callable_of, callOk_of fun w hw => by exact equal_any ea eb B D w (((H.on hw).arg gB)) (((H.on hw).arg gD))⟩, trivial, trivial, trivial⟩ fun a w8 hA H _ => ?_
  refine hK7 _ _ ?_
  refine go_ret_ ?_
  refine ret_one 4 (.bool ((decide (A = C)) && (decide (B = D)))) hA ?_
  exact ans_b' rfl H.below

set_option maxRecDepth 100000 in
set_option maxHeartbeats 1000000 in
theorem rsame_any (va ea vb eb : Value) (A B C D : List Int) (w : World) (gA : Rd (· < w.heap.size) w va A) (gB : Rd (· < w.heap.size) w ea B) (gC : Rd (· < w.heap.size) w vb C) (gD : Rd (· < w.heap.size) w eb D) :
  Calls Try.prog 29 [.agg #[va, ea], .agg #[vb, eb]].toArray w (Ans (.bool (decide (A = C) && decide (B = D))) w) := by
  refine enter Try.f29 17 Try.func29 fun a hA => ?_
  replace hA := env_sub [(0, .agg #[va, ea]), (1, .agg #[vb, eb])] hA
  have H := Fr.start (org w)
  refine go_seq fun K1 hK1 => ?_
  refine region_list ?_
  refine list_at 0 ?_; refine q_box 0 2 29 (.tmp 0) (.agg #[va, ea]) [va, ea] [(1, .agg #[vb, eb])] hA H fun b2 a w3 H hA hG hge_b2 => ?_
  clear hge_b2
  refine list_at 1 ?_; refine q_box 1 3 29 (.tmp 1) (.agg #[vb, eb]) [vb, eb] [(2, .pointer (some ⟨b2, 0, none⟩))] hA H fun b4 a w5 H hA hG hge_b4 => ?_
  clear hge_b4
  refine q_list 2 1 [] [(2, .pointer (some ⟨b2, 0, none⟩)), (3, .pointer (some ⟨b4, 0, none⟩))] ((True) ∧ True) hA H ⟨trivial, trivial⟩ fun a w6 hA H _ => ?_
  refine list_end ?_
  refine hK1 _ _ ?_
  refine go_seq fun K7 hK7 => ?_
  refine q_reg [(6, va), (8, vb), (9, .bool (decide (A = C))), (12, ea), (14, eb), (15, .bool (decide (B = D)))] [(4, .bool ((decide (A = C)) && (decide (B = D))))] ((0 < Try.prog.cellsOf 27) ∧ (CellOk (On w6) b2 (0 + 0) (va)) ∧ (0 < Try.prog.cellsOf 27) ∧ (CellOk (On w6) b4 (0 + 0) (vb)) ∧ (Callable Try.prog 36 ∧ CallOk Try.prog (On w6) 36 [va, vb].toArray (.bool (decide (A = C)))) ∧ (True) ∧ ((decide (A = C)) = true → 0 < Try.prog.cellsOf 27) ∧ ((decide (A = C)) = true → CellOk (On w6) b2 (0 + 1) (ea)) ∧ ((decide (A = C)) = true → 0 < Try.prog.cellsOf 27) ∧ ((decide (A = C)) = true → CellOk (On w6) b4 (0 + 1) (eb)) ∧ ((decide (A = C)) = true → Callable Try.prog 36 ∧ CallOk Try.prog (On w6) 36 [ea, eb].toArray (.bool (decide (B = D)))) ∧ (True) ∧ (True) ∧ True) hA H ⟨by decide +kernel, by exact box_cell H 1 rfl 0, by decide +kernel, by exact box_cell H 0 rfl 0, ⟨callable_of, callOk_of fun w hw => by exact requal_any va vb A C w (((H.on hw).arg gA)) (((H.on hw).arg gC))⟩, trivial, fun _ => by decide +kernel, fun _ => by exact box_cell H 1 rfl 1, fun _ => by decide +kernel, fun _ => by exact box_cell H 0 rfl 1, fun _ => ⟨callable_of, callOk_of fun w hw => by exact requal_any ea eb B D w (((H.on hw).arg gB)) (((H.on hw).arg gD))⟩, trivial, trivial, trivial⟩ fun a w8 hA H _ => ?_
  refine hK7 _ _ ?_
  refine go_ret_ ?_
  refine ret_one 4 (.bool ((decide (A = C)) && (decide (B = D)))) hA ?_
  exact ans_b' rfl H.below

set_option maxRecDepth 100000 in
set_option maxHeartbeats 1000000 in
theorem all_any (v u : Value) (l m : List Int) (w : World) (hl : Rd (· < w.heap.size) w v l) (hm : Rd (· < w.heap.size) w u m) (hs : m.length ≤ 1000000000) :
  Calls Try.prog 79 [v, u].toArray w (Ans (.bool (decide (allP l m))) w) := by
  have hlen := rd_len hl
  refine enter Try.f79 18 Try.func79 fun a hA => ?_
  replace hA := env_sub [(0, v), (1, u)] hA
  have H := Fr.start (org w)
  refine go_seq fun K1 hK1 => ?_
  refine q_reg [] [(0, v), (1, u)] ((True) ∧ True) hA H ⟨trivial, trivial⟩ fun a w2 hA H _ => ?_
  refine hK1 _ _ ?_
  refine go_seq fun K3 hK3 => ?_
  refine go_seq fun K4 hK4 => ?_
  refine q_reg [(8, .int .i64 (l.length : Int))] [(1, u), (7, v), (8, .int .i64 (l.length : Int)), (9, .int .i64 0)] ((True) ∧ (LenOk v (l.length : Int)) ∧ (True) ∧ True) hA H ⟨trivial, by exact len_ok (H.arg hl), trivial, trivial⟩ fun a w5 hA H _ => ?_
  refine hK4 _ _ ?_
  refine go_block 0 ?_
  refine go_loop_ (Int) (fun x_ a W => (fun (i : Int) => EnvOk 18 a (keepEnv [(1, u), (7, v), (8, .int .i64 (l.length : Int)), (9, .int .i64 i)]) ∧ (∃ S, Fr (org w) W S []) ∧ 0 ≤ i ∧ ∀ j : Nat, (j : Int) < i → hasB m (l.getD j 0) = true) x_) (fun x_ => (fun (i : Int) => ((l.length : Int) - i).toNat) x_) (0) ?_ (fun i a w7 hI => ?_)
  · (try dsimp only); exact ⟨env_sub _ hA, ⟨_, H⟩, by omega, fun j hj => by omega⟩
  obtain ⟨hA, ⟨S, H⟩, h0, hok⟩ := hI
  try dsimp only at h0 hok
  refine go_seq fun K8 hK8 => ?_
  refine q_reg [] [(1, u), (7, v), (8, .int .i64 (l.length : Int)), (9, .int .i64 i), (10, .bool (decide (i < (l.length : Int))))] ((True) ∧ True) hA H ⟨trivial, trivial⟩ fun a w9 hA H _ => ?_
  refine hK8 _ _ ?_
  refine go_seq fun K10 hK10 => ?_
  refine go_cond hA (.tmp 10) (decide (i < (l.length : Int))) (fun hb11 => ?_) (fun hb11 => ?_)
  · have hhb11 := of_decide_eq_true hb11
    refine go_skip ?_
    refine hK10 _ _ ?_
    refine go_seq fun K12 hK12 => ?_
    refine go_block 1 ?_
    refine go_seq fun K13 hK13 => ?_
    refine q_reg [(12, .int .i64 (l.getD i.toNat 0))] [(1, u), (6, .int .i64 (l.getD i.toNat 0)), (7, v), (8, .int .i64 (l.length : Int)), (9, .int .i64 i)] (((Try.prog.info? 3).isSome = true ∧ IdxOk v i) ∧ (CellOk (On w9) (hdB v) (hdO v + i.toNat * 1) (.int .i64 (l.getD i.toNat 0))) ∧ (True) ∧ True) hA H ⟨⟨by kernel_rfl, by exact idx_ok (H.arg hl) (by omega) (by omega)⟩, by exact cell_flat (i := i) (H.arg hl) (by omega) (by omega) 0 0, trivial, trivial⟩ fun a w14 hA H _ => ?_
    refine hK13 _ _ ?_
    refine go_seq fun K15 hK15 => ?_
    refine q_reg [(15, .bool (hasB m (l.getD i.toNat 0)))] [(1, u), (7, v), (8, .int .i64 (l.length : Int)), (9, .int .i64 i), (16, .bool (!(hasB m (l.getD i.toNat 0))))] ((True) ∧ (True) ∧ (Callable Try.prog 39 ∧ CallOk Try.prog (On w14) 39 [u, .int .i64 (l.getD i.toNat 0)].toArray (.bool (hasB m (l.getD i.toNat 0)))) ∧ (True) ∧ True) hA H ⟨trivial, trivial, ⟨callable_of, callOk_of fun w hw => by exact has_any u m (l.getD i.toNat 0) w (((H.on hw).arg hm)) (by omega)⟩, trivial, trivial⟩ fun a w16 hA H _ => ?_
    refine hK15 _ _ ?_
    refine go_cond hA (.tmp 16) (!(hasB m (l.getD i.toNat 0))) (fun hb17 => ?_) (fun hb17 => ?_)
    · have hhb17 := (nT hb17)
      refine go_seq fun K18 hK18 => ?_
      refine q_reg [] [(4, .bool false)] ((True) ∧ True) hA H ⟨trivial, trivial⟩ fun a w19 hA H _ => ?_
      refine hK18 _ _ ?_
      refine go_ret_ ?_
      refine ret_one 4 (.bool false) hA ?_
      exact ans_b' ((decide_eq_false (fun q => by have z := q i.toNat (by omega); rw [z] at hhb17; cases hhb17)).symm) H.below
    · have hhb17 := (nF hb17)
      refine go_skip ?_
      refine hK12 _ _ ?_
      refine q_reg [] [(1, u), (7, v), (8, .int .i64 (l.length : Int)), (9, .int .i64 (i + 1))] ((InR .i64 (i + 1)) ∧ (True) ∧ True) hA H ⟨⟨by omega, by omega⟩, trivial, trivial⟩ fun a w20 hA H _ => ?_
      refine ⟨(i + 1), ⟨env_sub _ hA, ⟨_, H⟩, ?_⟩, ?_⟩
      · (try dsimp only); exact ⟨by omega, fun j hj => if e : (j : Int) = i then (by rw [show j = i.toNat by omega]; exact hhb17) else hok j (by omega)⟩
      · (try dsimp only); omega
  · have hhb11 := of_decide_eq_false hb11
    refine go_exit 0 ?_
    refine hK3 _ _ ?_
    refine go_seq fun K21 hK21 => ?_
    refine q_reg [] [(4, .bool true)] ((True) ∧ True) hA H ⟨trivial, trivial⟩ fun a w22 hA H _ => ?_
    refine hK21 _ _ ?_
    refine go_ret_ ?_
    refine ret_one 4 (.bool true) hA ?_
    exact ans_b' ((decide_eq_true (fun j hj => hok j (by omega))).symm) H.below

set_option maxRecDepth 100000 in
set_option maxHeartbeats 1000000 in
theorem within_any (va ea vb eb : Value) (A B C D : List Int) (w : World) (gA : Rd (· < w.heap.size) w va A) (gB : Rd (· < w.heap.size) w ea B) (gC : Rd (· < w.heap.size) w vb C) (gD : Rd (· < w.heap.size) w eb D) (hs1 : C.length ≤ 1000000000) (hs2 : D.length ≤ 1000000000) :
  Calls Try.prog 41 [.agg #[va, ea], .agg #[vb, eb]].toArray w (Ans (.bool (decide (allP A C) && decide (allP B D))) w) := by
  refine enter Try.f41 17 Try.func41 fun a hA => ?_
  replace hA := env_sub [(0, .agg #[va, ea]), (1, .agg #[vb, eb])] hA
  have H := Fr.start (org w)
  refine go_seq fun K1 hK1 => ?_
  refine region_list ?_
  refine list_at 0 ?_; refine q_box 0 2 29 (.tmp 0) (.agg #[va, ea]) [va, ea] [(1, .agg #[vb, eb])] hA H fun b2 a w3 H hA hG hge_b2 => ?_
  clear hge_b2
  refine list_at 1 ?_; refine q_box 1 3 29 (.tmp 1) (.agg #[vb, eb]) [vb, eb] [(2, .pointer (some ⟨b2, 0, none⟩))] hA H fun b4 a w5 H hA hG hge_b4 => ?_
  clear hge_b4
  refine q_list 2 1 [] [(2, .pointer (some ⟨b2, 0, none⟩)), (3, .pointer (some ⟨b4, 0, none⟩))] ((True) ∧ True) hA H ⟨trivial, trivial⟩ fun a w6 hA H _ => ?_
  refine list_end ?_
  refine hK1 _ _ ?_
  refine go_seq fun K7 hK7 => ?_
  refine q_reg [(6, va), (8, vb), (9, .bool (decide (allP A C))), (12, ea), (14, eb), (15, .bool (decide (allP B D)))] [(4, .bool ((decide (allP A C)) && (decide (allP B D))))] ((0 < Try.prog.cellsOf 27) ∧ (CellOk (On w6) b2 (0 + 0) (va)) ∧ (0 < Try.prog.cellsOf 27) ∧ (CellOk (On w6) b4 (0 + 0) (vb)) ∧ (Callable Try.prog 79 ∧ CallOk Try.prog (On w6) 79 [va, vb].toArray (.bool (decide (allP A C)))) ∧ (True) ∧ ((decide (allP A C)) = true → 0 < Try.prog.cellsOf 27) ∧ ((decide (allP A C)) = true → CellOk (On w6) b2 (0 + 1) (ea)) ∧ ((decide (allP A C)) = true → 0 < Try.prog.cellsOf 27) ∧ ((decide (allP A C)) = true → CellOk (On w6) b4 (0 + 1) (eb)) ∧ ((decide (allP A C)) = true → Callable Try.prog 79 ∧ CallOk Try.prog (On w6) 79 [ea, eb].toArray (.bool (decide (allP B D)))) ∧ (True) ∧ (True) ∧ True) hA H ⟨by decide +kernel, by exact box_cell H 1 rfl 0, by decide +kernel, by exact box_cell H 0 rfl 0, ⟨callable_of, callOk_of fun w hw => by exact all_any va vb A C w (((H.on hw).arg gA)) (((H.on hw).arg gC)) (by omega)⟩, trivial, fun _ => by decide +kernel, fun _ => by exact box_cell H 1 rfl 1, fun _ => by decide +kernel, fun _ => by exact box_cell H 0 rfl 1, fun hg0 => by replace hg0 := of_decide_eq_true hg0; exact ⟨callable_of, callOk_of fun w hw => by exact all_any ea eb B D w (((H.on hw).arg gB)) (((H.on hw).arg gD)) (by omega)⟩, trivial, trivial, trivial⟩ fun a w8 hA H _ => ?_
  refine hK7 _ _ ?_
  refine go_ret_ ?_
  refine ret_one 4 (.bool ((decide (allP A C)) && (decide (allP B D)))) hA ?_
  exact ans_b' rfl H.below

set_option maxRecDepth 100000 in
set_option maxHeartbeats 1000000 in
theorem in_any (v : Value) (l : List Int) (x : Int) (w : World) (hl : Rd (· < w.heap.size) w v l) :
  Calls Try.prog 24 [v, .int .i64 x].toArray w (Ans (.bool (decide (x ∈ l))) w) := by
  have hlen := rd_len hl
  refine enter Try.f24 18 Try.func24 fun a hA => ?_
  replace hA := env_sub [(0, v), (1, .int .i64 x)] hA
  have H := Fr.start (org w)
  refine go_seq fun K1 hK1 => ?_
  refine q_reg [] [(0, v), (1, .int .i64 x)] ((True) ∧ True) hA H ⟨trivial, trivial⟩ fun a w2 hA H _ => ?_
  refine hK1 _ _ ?_
  refine go_seq fun K3 hK3 => ?_
  refine go_seq fun K4 hK4 => ?_
  refine q_reg [] [(0, v), (1, .int .i64 x), (5, .int .i64 0)] ((True) ∧ True) hA H ⟨trivial, trivial⟩ fun a w5 hA H _ => ?_
  refine hK4 _ _ ?_
  refine go_block 0 ?_
  refine go_loop_ (Int) (fun x_ a W => (fun (i : Int) => EnvOk 18 a (keepEnv [(0, v), (1, .int .i64 x), (5, .int .i64 i)]) ∧ (∃ S, Fr (org w) W S []) ∧ 0 ≤ i ∧ ∀ j : Nat, (j : Int) < i → l.getD j 0 ≠ x) x_) (fun x_ => (fun (i : Int) => ((l.length : Int) - i).toNat) x_) (0) ?_ (fun i a w7 hI => ?_)
  · (try dsimp only); exact ⟨env_sub _ hA, ⟨_, H⟩, by omega, fun j hj => by omega⟩
  obtain ⟨hA, ⟨S, H⟩, h0, hok⟩ := hI
  try dsimp only at h0 hok
  refine go_seq fun K8 hK8 => ?_
  refine go_seq fun K9 hK9 => ?_
  refine q_reg [(8, .int .i64 (l.length : Int))] [(0, v), (1, .int .i64 x), (5, .int .i64 i), (9, .bool (decide (i < (l.length : Int))))] ((True) ∧ (True) ∧ (LenOk v (l.length : Int)) ∧ (True) ∧ True) hA H ⟨trivial, trivial, by exact len_ok (H.arg hl), trivial, trivial⟩ fun a w10 hA H _ => ?_
  refine hK9 _ _ ?_
  refine go_cond hA (.tmp 9) (decide (i < (l.length : Int))) (fun hb11 => ?_) (fun hb11 => ?_)
  · have hhb11 := of_decide_eq_true hb11
    refine go_skip ?_
    refine hK8 _ _ ?_
    refine go_seq fun K12 hK12 => ?_
    refine go_block 1 ?_
    refine go_seq fun K13 hK13 => ?_
    refine q_reg [(15, .int .i64 (l.getD i.toNat 0))] [(0, v), (1, .int .i64 x), (5, .int .i64 i), (17, .bool (decide ((l.getD i.toNat 0) = x)))] ((True) ∧ (True) ∧ ((Try.prog.info? 3).isSome = true ∧ IdxOk v i) ∧ (CellOk (On w10) (hdB v) (hdO v + i.toNat * 1) (.int .i64 (l.getD i.toNat 0))) ∧ (True) ∧ (True) ∧ True) hA H ⟨trivial, trivial, ⟨by kernel_rfl, by exact idx_ok (H.arg hl) (by omega) (by omega)⟩, by exact cell_flat (i := i) (H.arg hl) (by omega) (by omega) 0 0, trivial, trivial, trivial⟩ fun a w14 hA H _ => ?_
    refine hK13 _ _ ?_
    refine go_cond hA (.tmp 17) (decide ((l.getD i.toNat 0) = x)) (fun hb15 => ?_) (fun hb15 => ?_)
    · have hhb15 := of_decide_eq_true hb15
      refine go_seq fun K16 hK16 => ?_
      refine q_reg [] [(4, .bool true)] ((True) ∧ True) hA H ⟨trivial, trivial⟩ fun a w17 hA H _ => ?_
      refine hK16 _ _ ?_
      refine go_ret_ ?_
      refine ret_one 4 (.bool true) hA ?_
      exact ans_b' ((decide_eq_true (mem_getD.2 ⟨i.toNat, by omega, hhb15⟩)).symm) H.below
    · have hhb15 := of_decide_eq_false hb15
      refine go_skip ?_
      refine hK12 _ _ ?_
      refine q_reg [] [(0, v), (1, .int .i64 x), (5, .int .i64 (i + 1))] ((True) ∧ (InR .i64 (i + 1)) ∧ (True) ∧ True) hA H ⟨trivial, ⟨by omega, by omega⟩, trivial, trivial⟩ fun a w18 hA H _ => ?_
      refine ⟨(i + 1), ⟨env_sub _ hA, ⟨_, H⟩, ?_⟩, ?_⟩
      · (try dsimp only); exact ⟨by omega, fun j hj => if e : (j : Int) = i then (by rw [show j = i.toNat by omega]; exact hhb15) else hok j (by omega)⟩
      · (try dsimp only); omega
  · have hhb11 := of_decide_eq_false hb11
    refine go_exit 0 ?_
    refine hK3 _ _ ?_
    refine go_seq fun K19 hK19 => ?_
    refine q_reg [] [(4, .bool false)] ((True) ∧ True) hA H ⟨trivial, trivial⟩ fun a w20 hA H _ => ?_
    refine hK19 _ _ ?_
    refine go_ret_ ?_
    refine ret_one 4 (.bool false) hA ?_
    exact ans_b' ((decide_eq_false (fun q => by obtain ⟨j, hj, e⟩ := mem_getD.1 q; exact hok j (by omega) e)).symm) H.below

set_option maxRecDepth 100000 in
set_option maxHeartbeats 1000000 in
theorem rises_any (v : Value) (l : List Int) (n : Int) (w : World) (hl : Rd (· < w.heap.size) w v l) :
  Calls Try.prog 25 [v, .int .i64 n].toArray w (Ans (.bool (decide (risesP l n))) w) := by
  have hlen := rd_len hl
  refine enter Try.f25 41 Try.func25 fun a hA => ?_
  replace hA := env_sub [(0, v), (1, .int .i64 n)] hA
  have H := Fr.start (org w)
  refine go_seq fun K1 hK1 => ?_
  refine q_reg [] [(0, v), (1, .int .i64 n)] ((True) ∧ True) hA H ⟨trivial, trivial⟩ fun a w2 hA H _ => ?_
  refine hK1 _ _ ?_
  refine go_seq fun K3 hK3 => ?_
  refine go_seq fun K4 hK4 => ?_
  refine q_reg [] [(0, v), (1, .int .i64 n), (5, .int .i64 0)] ((True) ∧ True) hA H ⟨trivial, trivial⟩ fun a w5 hA H _ => ?_
  refine hK4 _ _ ?_
  refine go_block 0 ?_
  refine go_loop_ (Int) (fun x_ a W => (fun (i : Int) => EnvOk 41 a (keepEnv [(0, v), (1, .int .i64 n), (5, .int .i64 i)]) ∧ (∃ S, Fr (org w) W S []) ∧ 0 ≤ i ∧ ∀ j : Nat, (j : Int) < i → 0 ≤ l.getD j 0 ∧ l.getD j 0 < n ∧ (0 < j → l.getD (j - 1) 0 < l.getD j 0)) x_) (fun x_ => (fun (i : Int) => ((l.length : Int) - i).toNat) x_) (0) ?_ (fun i a w7 hI => ?_)
  · (try dsimp only); exact ⟨env_sub _ hA, ⟨_, H⟩, by omega, fun j hj => by omega⟩
  obtain ⟨hA, ⟨S, H⟩, h0, hok⟩ := hI
  try dsimp only at h0 hok
  refine go_seq fun K8 hK8 => ?_
  refine go_seq fun K9 hK9 => ?_
  refine q_reg [(8, .int .i64 (l.length : Int))] [(0, v), (1, .int .i64 n), (5, .int .i64 i), (9, .bool (decide (i < (l.length : Int))))] ((True) ∧ (True) ∧ (LenOk v (l.length : Int)) ∧ (True) ∧ True) hA H ⟨trivial, trivial, by exact len_ok (H.arg hl), trivial, trivial⟩ fun a w10 hA H _ => ?_
  refine hK9 _ _ ?_
  refine go_cond hA (.tmp 9) (decide (i < (l.length : Int))) (fun hb11 => ?_) (fun hb11 => ?_)
  · have hhb11 := of_decide_eq_true hb11
    refine go_skip ?_
    refine hK8 _ _ ?_
    refine go_seq fun K12 hK12 => ?_
    refine go_block 1 ?_
    refine go_seq fun K13 hK13 => ?_
    refine q_draw [(15, .int .i64 (l.getD i.toNat 0)), (21, .int .i64 (l.getD i.toNat 0)), (32, .int .i64 (l.getD i.toNat 0)), (37, .int .i64 (l.getD (i - 1).toNat 0))] [(0, v), (1, .int .i64 n), (5, .int .i64 i), (40, .bool (((decide ((l.getD i.toNat 0) < 0)) || (decide (n ≤ (l.getD i.toNat 0)))) || ((decide ((0 : Int) < i)) && (decide ((l.getD i.toNat 0) ≤ (l.getD (i - 1).toNat 0))))))] ((True) ∧ (True) ∧ ((Try.prog.info? 3).isSome = true ∧ IdxOk v i) ∧ (CellOk (On w10) (hdB v) (hdO v + i.toNat * 1) (.int .i64 (l.getD i.toNat 0))) ∧ (True) ∧ (True) ∧ ((decide ((l.getD i.toNat 0) < 0)) = false → True) ∧ ((decide ((l.getD i.toNat 0) < 0)) = false → True) ∧ ((decide ((l.getD i.toNat 0) < 0)) = false → (Try.prog.info? 3).isSome = true ∧ IdxOk v i) ∧ ((decide ((l.getD i.toNat 0) < 0)) = false → CellOk (On w10) (hdB v) (hdO v + i.toNat * 1) (.int .i64 (l.getD i.toNat 0))) ∧ ((decide ((l.getD i.toNat 0) < 0)) = false → True) ∧ ((decide ((l.getD i.toNat 0) < 0)) = false → True) ∧ (True) ∧ (True) ∧ (((decide ((l.getD i.toNat 0) < 0)) || (decide (n ≤ (l.getD i.toNat 0)))) = false → True) ∧ (((decide ((l.getD i.toNat 0) < 0)) || (decide (n ≤ (l.getD i.toNat 0)))) = false → True) ∧ (((decide ((l.getD i.toNat 0) < 0)) || (decide (n ≤ (l.getD i.toNat 0)))) = false → True) ∧ (((decide ((l.getD i.toNat 0) < 0)) || (decide (n ≤ (l.getD i.toNat 0)))) = false → (decide ((0 : Int) < i)) = true → True) ∧ (((decide ((l.getD i.toNat 0) < 0)) || (decide (n ≤ (l.getD i.toNat 0)))) = false → (decide ((0 : Int) < i)) = true → True) ∧ (((decide ((l.getD i.toNat 0) < 0)) || (decide (n ≤ (l.getD i.toNat 0)))) = false → (decide ((0 : Int) < i)) = true → (Try.prog.info? 3).isSome = true ∧ IdxOk v i) ∧ (((decide ((l.getD i.toNat 0) < 0)) || (decide (n ≤ (l.getD i.toNat 0)))) = false → (decide ((0 : Int) < i)) = true → CellOk (On w10) (hdB v) (hdO v + i.toNat * 1) (.int .i64 (l.getD i.toNat 0))) ∧ (((decide ((l.getD i.toNat 0) < 0)) || (decide (n ≤ (l.getD i.toNat 0)))) = false → (decide ((0 : Int) < i)) = true → True) ∧ (((decide ((l.getD i.toNat 0) < 0)) || (decide (n ≤ (l.getD i.toNat 0)))) = false → (decide ((0 : Int) < i)) = true → True) ∧ (((decide ((l.getD i.toNat 0) < 0)) || (decide (n ≤ (l.getD i.toNat 0)))) = false → (decide ((0 : Int) < i)) = true → InR .i64 (i - 1)) ∧ (((decide ((l.getD i.toNat 0) < 0)) || (decide (n ≤ (l.getD i.toNat 0)))) = false → (decide ((0 : Int) < i)) = true → (Try.prog.info? 3).isSome = true ∧ IdxOk v (i - 1)) ∧ (((decide ((l.getD i.toNat 0) < 0)) || (decide (n ≤ (l.getD i.toNat 0)))) = false → (decide ((0 : Int) < i)) = true → CellOk (On w10) (hdB v) (hdO v + (i - 1).toNat * 1) (.int .i64 (l.getD (i - 1).toNat 0))) ∧ (((decide ((l.getD i.toNat 0) < 0)) || (decide (n ≤ (l.getD i.toNat 0)))) = false → (decide ((0 : Int) < i)) = true → True) ∧ (((decide ((l.getD i.toNat 0) < 0)) || (decide (n ≤ (l.getD i.toNat 0)))) = false → True) ∧ (True) ∧ True) hA H ⟨trivial, trivial, ⟨by kernel_rfl, by exact idx_ok (H.arg hl) (by omega) (by omega)⟩, by exact cell_flat (i := i) (H.arg hl) (by omega) (by omega) 0 0, trivial, trivial, fun _ => trivial, fun _ => trivial, fun hg0 => by replace hg0 := of_decide_eq_false hg0; exact ⟨by kernel_rfl, by exact idx_ok (H.arg hl) (by omega) (by omega)⟩, fun hg0 => by replace hg0 := of_decide_eq_false hg0; exact by exact cell_flat (i := i) (H.arg hl) (by omega) (by omega) 0 0, fun _ => trivial, fun _ => trivial, trivial, trivial, fun _ => trivial, fun _ => trivial, fun _ => trivial, fun _ _ => trivial, fun _ _ => trivial, fun hg0 hg1 => by replace hg0 := (⟨of_decide_eq_false ((oF hg0).1), of_decide_eq_false ((oF hg0).2)⟩ : _ ∧ _); replace hg1 := of_decide_eq_true hg1; exact ⟨by kernel_rfl, by exact idx_ok (H.arg hl) (by omega) (by omega)⟩, fun hg0 hg1 => by replace hg0 := (⟨of_decide_eq_false ((oF hg0).1), of_decide_eq_false ((oF hg0).2)⟩ : _ ∧ _); replace hg1 := of_decide_eq_true hg1; exact by exact cell_flat (i := i) (H.arg hl) (by omega) (by omega) 0 0, fun _ _ => trivial, fun _ _ => trivial, fun hg0 hg1 => by replace hg0 := (⟨of_decide_eq_false ((oF hg0).1), of_decide_eq_false ((oF hg0).2)⟩ : _ ∧ _); replace hg1 := of_decide_eq_true hg1; exact ⟨by omega, by omega⟩, fun hg0 hg1 => by replace hg0 := (⟨of_decide_eq_false ((oF hg0).1), of_decide_eq_false ((oF hg0).2)⟩ : _ ∧ _); replace hg1 := of_decide_eq_true hg1; exact ⟨by kernel_rfl, by exact idx_ok (H.arg hl) (by omega) (by omega)⟩, fun hg0 hg1 => by replace hg0 := (⟨of_decide_eq_false ((oF hg0).1), of_decide_eq_false ((oF hg0).2)⟩ : _ ∧ _); replace hg1 := of_decide_eq_true hg1; exact by exact cell_flat (i := i - 1) (H.arg hl) (by omega) (by omega) 0 0, fun _ _ => trivial, fun _ => trivial, trivial, trivial⟩ fun a w14 hA H _ => ?_
    refine hK13 _ _ ?_
    refine go_cond hA (.tmp 40) (((decide ((l.getD i.toNat 0) < 0)) || (decide (n ≤ (l.getD i.toNat 0)))) || ((decide ((0 : Int) < i)) && (decide ((l.getD i.toNat 0) ≤ (l.getD (i - 1).toNat 0))))) (fun hb15 => ?_) (fun hb15 => ?_)
    · have hhb15 := (oT hb15).imp (fun h => (oT h).imp (fun h => of_decide_eq_true h) (fun h => of_decide_eq_true h)) (fun h => (⟨of_decide_eq_true ((aT h).1), of_decide_eq_true ((aT h).2)⟩ : _ ∧ _))
      refine go_seq fun K16 hK16 => ?_
      refine q_reg [] [(4, .bool false)] ((True) ∧ True) hA H ⟨trivial, trivial⟩ fun a w17 hA H _ => ?_
      refine hK16 _ _ ?_
      refine go_ret_ ?_
      refine ret_one 4 (.bool false) hA ?_
      exact ans_b' ((decide_eq_false (fun q => by have := q i.toNat (by omega); have z := hhb15; rw [show (i - 1).toNat = i.toNat - 1 by omega] at z; omega)).symm) H.below
    · have hhb15 := (⟨(⟨of_decide_eq_false ((oF ((oF hb15).1)).1), of_decide_eq_false ((oF ((oF hb15).1)).2)⟩ : _ ∧ _), (aF ((oF hb15).2)).imp (fun h => of_decide_eq_false h) (fun h => of_decide_eq_false h)⟩ : _ ∧ _)
      refine go_skip ?_
      refine hK12 _ _ ?_
      refine q_reg [] [(0, v), (1, .int .i64 n), (5, .int .i64 (i + 1))] ((True) ∧ (InR .i64 (i + 1)) ∧ (True) ∧ True) hA H ⟨trivial, ⟨by omega, by omega⟩, trivial, trivial⟩ fun a w18 hA H _ => ?_
      refine ⟨(i + 1), ⟨env_sub _ hA, ⟨_, H⟩, ?_⟩, ?_⟩
      · (try dsimp only); exact ⟨by omega, fun j hj => if e : (j : Int) = i then (by have q := hhb15; rw [show j = i.toNat by omega]; rw [show (i - 1).toNat = i.toNat - 1 by omega] at q; omega) else hok j (by omega)⟩
      · (try dsimp only); omega
  · have hhb11 := of_decide_eq_false hb11
    refine go_exit 0 ?_
    refine hK3 _ _ ?_
    refine go_seq fun K19 hK19 => ?_
    refine q_reg [] [(4, .bool true)] ((True) ∧ True) hA H ⟨trivial, trivial⟩ fun a w20 hA H _ => ?_
    refine hK19 _ _ ?_
    refine go_ret_ ?_
    refine ret_one 4 (.bool true) hA ?_
    exact ans_b' ((decide_eq_true (fun j hj => hok j (by omega))).symm) H.below

set_option maxRecDepth 100000 in
set_option maxHeartbeats 1000000 in
theorem rright_any (n : Int) (ve : Value) (E : List (Int × Int)) (w : World) (hn : -9223372036854775808 ≤ n ∧ n ≤ 9223372036854775807) (hE : Rd (· < w.heap.size) w ve E) :
  Calls Try.prog 27 [.agg #[.int .i64 n, ve]].toArray w (Ans (.int .i64 (rightE n E)) w) := by
  have hlen := rd_len hE
  refine enter Try.f27 70 Try.func27 fun a hA => ?_
  replace hA := env_sub [(0, .agg #[.int .i64 n, ve])] hA
  have H := Fr.start (org w)
  refine go_seq fun K1 hK1 => ?_
  refine region_list ?_
  refine list_at 0 ?_; refine q_box 0 1 24 (.tmp 0) (.agg #[.int .i64 n, ve]) [.int .i64 n, ve] [] hA H fun b2 a w3 H hA hG hge_b2 => ?_
  clear hge_b2
  refine q_list 1 1 [] [(1, .pointer (some ⟨b2, 0, none⟩))] ((True) ∧ True) hA H ⟨trivial, trivial⟩ fun a w4 hA H _ => ?_
  refine list_end ?_
  refine hK1 _ _ ?_
  refine go_seq fun K5 hK5 => ?_
  refine go_seq fun K6 hK6 => ?_
  refine q_reg [(5, .int .i64 n)] [(1, .pointer (some ⟨b2, 0, none⟩)), (6, .bool (decide (n < 0)))] ((0 < Try.prog.cellsOf 3) ∧ (CellOk (On w4) b2 (0 + 0) (.int .i64 n)) ∧ (True) ∧ True) hA H ⟨by decide +kernel, by exact box_cell H 0 rfl 0, trivial, trivial⟩ fun a w7 hA H _ => ?_
  refine hK6 _ _ ?_
  refine go_cond hA (.tmp 6) (decide (n < 0)) (fun hb8 => ?_) (fun hb8 => ?_)
  · have hhb8 := of_decide_eq_true hb8
    refine go_seq fun K9 hK9 => ?_
    refine q_reg [] [(2, .int .i64 3)] ((True) ∧ True) hA H ⟨trivial, trivial⟩ fun a w10 hA H _ => ?_
    refine hK9 _ _ ?_
    refine go_ret_ ?_
    refine ret_one 2 (.int .i64 3) hA ?_
    exact ans_i' (by unfold rightE; first | rw [if_pos (by omega)] | rw [if_neg (by omega), if_pos (by omega)]) H.below
  · have hhb8 := of_decide_eq_false hb8
    refine go_skip ?_
    refine hK5 _ _ ?_
    refine go_seq fun K11 hK11 => ?_
    refine go_seq fun K12 hK12 => ?_
    refine q_reg [(8, .int .i64 n), (12, ve), (13, .int .i64 (E.length : Int)), (18, .int .i64 n), (20, ve), (21, .int .i64 (E.length : Int))] [(1, .pointer (some ⟨b2, 0, none⟩)), (24, .bool (((decide ((1024 : Int) < n)) || (decide ((1024 : Int) < (E.length : Int)))) || (decide ((1024 : Int) < n + (E.length : Int)))))] ((0 < Try.prog.cellsOf 3) ∧ (CellOk (On w7) b2 (0 + 0) (.int .i64 n)) ∧ (True) ∧ (True) ∧ ((decide ((1024 : Int) < n)) = false → 0 < Try.prog.cellsOf 22) ∧ ((decide ((1024 : Int) < n)) = false → CellOk (On w7) b2 (0 + 1) (ve)) ∧ ((decide ((1024 : Int) < n)) = false → LenOk ve (E.length : Int)) ∧ ((decide ((1024 : Int) < n)) = false → True) ∧ (True) ∧ (True) ∧ (((decide ((1024 : Int) < n)) || (decide ((1024 : Int) < (E.length : Int)))) = false → 0 < Try.prog.cellsOf 3) ∧ (((decide ((1024 : Int) < n)) || (decide ((1024 : Int) < (E.length : Int)))) = false → CellOk (On w7) b2 (0 + 0) (.int .i64 n)) ∧ (((decide ((1024 : Int) < n)) || (decide ((1024 : Int) < (E.length : Int)))) = false → 0 < Try.prog.cellsOf 22) ∧ (((decide ((1024 : Int) < n)) || (decide ((1024 : Int) < (E.length : Int)))) = false → CellOk (On w7) b2 (0 + 1) (ve)) ∧ (((decide ((1024 : Int) < n)) || (decide ((1024 : Int) < (E.length : Int)))) = false → LenOk ve (E.length : Int)) ∧ (((decide ((1024 : Int) < n)) || (decide ((1024 : Int) < (E.length : Int)))) = false → InR .i64 (n + (E.length : Int))) ∧ (((decide ((1024 : Int) < n)) || (decide ((1024 : Int) < (E.length : Int)))) = false → True) ∧ (True) ∧ True) hA H ⟨by decide +kernel, by exact box_cell H 0 rfl 0, trivial, trivial, fun _ => by decide +kernel, fun _ => by exact box_cell H 0 rfl 1, fun _ => by exact len_ok (H.arg hE), fun _ => trivial, trivial, trivial, fun _ => by decide +kernel, fun _ => by exact box_cell H 0 rfl 0, fun _ => by decide +kernel, fun _ => by exact box_cell H 0 rfl 1, fun _ => by exact len_ok (H.arg hE), fun hg0 => by replace hg0 := (⟨of_decide_eq_false ((oF hg0).1), of_decide_eq_false ((oF hg0).2)⟩ : _ ∧ _); exact ⟨by omega, by omega⟩, fun _ => trivial, trivial, trivial⟩ fun a w13 hA H _ => ?_
    refine hK12 _ _ ?_
    refine go_cond hA (.tmp 24) (((decide ((1024 : Int) < n)) || (decide ((1024 : Int) < (E.length : Int)))) || (decide ((1024 : Int) < n + (E.length : Int)))) (fun hb14 => ?_) (fun hb14 => ?_)
    · have hhb14 := (oT hb14).imp (fun h => (oT h).imp (fun h => of_decide_eq_true h) (fun h => of_decide_eq_true h)) (fun h => of_decide_eq_true h)
      refine go_seq fun K15 hK15 => ?_
      refine q_reg [] [(2, .int .i64 2)] ((True) ∧ True) hA H ⟨trivial, trivial⟩ fun a w16 hA H _ => ?_
      refine hK15 _ _ ?_
      refine go_ret_ ?_
      refine ret_one 2 (.int .i64 2) hA ?_
      exact ans_i' (by unfold rightE; first | rw [if_pos (by omega)] | rw [if_neg (by omega), if_pos (by omega)]) H.below
    · have hhb14 := (⟨(⟨of_decide_eq_false ((oF ((oF hb14).1)).1), of_decide_eq_false ((oF ((oF hb14).1)).2)⟩ : _ ∧ _), of_decide_eq_false ((oF hb14).2)⟩ : _ ∧ _)
      refine go_skip ?_
      refine hK11 _ _ ?_
      refine go_seq fun K17 hK17 => ?_
      refine go_seq fun K18 hK18 => ?_
      refine q_reg [] [(1, .pointer (some ⟨b2, 0, none⟩)), (3, .int .i64 0)] ((True) ∧ True) hA H ⟨trivial, trivial⟩ fun a w19 hA H _ => ?_
      refine hK18 _ _ ?_
      refine go_block 0 ?_
      refine go_loop_ (Int) (fun x_ a W => (fun (i : Int) => EnvOk 70 a (keepEnv [(1, .pointer (some ⟨b2, 0, none⟩)), (3, .int .i64 i)]) ∧ (∃ S, Fr (org w) W S [.box b2 24 [.int .i64 n, ve]]) ∧ 0 ≤ i ∧ ∀ j : Nat, (j : Int) < i → okE n (E.getD j (0, 0))) x_) (fun x_ => (fun (i : Int) => ((E.length : Int) - i).toNat) x_) (0) ?_ (fun i a w21 hI => ?_)
      · (try dsimp only); exact ⟨env_sub _ hA, ⟨_, H⟩, by omega, fun j hj => by omega⟩
      obtain ⟨hA, ⟨S, H⟩, h0, hok⟩ := hI
      try dsimp only at h0 hok
      refine go_seq fun K22 hK22 => ?_
      refine go_seq fun K23 hK23 => ?_
      refine q_reg [(27, ve), (28, .int .i64 (E.length : Int))] [(1, .pointer (some ⟨b2, 0, none⟩)), (3, .int .i64 i), (29, .bool (decide (i < (E.length : Int))))] ((True) ∧ (0 < Try.prog.cellsOf 22) ∧ (CellOk (On w21) b2 (0 + 1) (ve)) ∧ (LenOk ve (E.length : Int)) ∧ (True) ∧ True) hA H ⟨trivial, by decide +kernel, by exact box_cell H 0 rfl 1, by exact len_ok (H.arg hE), trivial, trivial⟩ fun a w24 hA H _ => ?_
      refine hK23 _ _ ?_
      refine go_cond hA (.tmp 29) (decide (i < (E.length : Int))) (fun hb25 => ?_) (fun hb25 => ?_)
      · have hhb25 := of_decide_eq_true hb25
        refine go_skip ?_
        refine hK22 _ _ ?_
        refine go_seq fun K26 hK26 => ?_
        refine go_block 1 ?_
        refine go_seq fun K27 hK27 => ?_
        refine q_draw [(33, ve), (37, .int .i64 ((E.getD i.toNat (0, 0)).1)), (41, ve), (45, .int .i64 ((E.getD i.toNat (0, 0)).1)), (47, .int .i64 n), (52, ve), (56, .int .i64 ((E.getD i.toNat (0, 0)).2)), (61, ve), (65, .int .i64 ((E.getD i.toNat (0, 0)).2)), (67, .int .i64 n)] [(1, .pointer (some ⟨b2, 0, none⟩)), (3, .int .i64 i), (69, .bool ((((decide ((E.getD i.toNat (0, 0)).1 < 0)) || (decide (n ≤ (E.getD i.toNat (0, 0)).1))) || (decide ((E.getD i.toNat (0, 0)).2 < 0))) || (decide (n ≤ (E.getD i.toNat (0, 0)).2))))] ((0 < Try.prog.cellsOf 22) ∧ (CellOk (On w24) b2 (0 + 1) (ve)) ∧ (True) ∧ ((Try.prog.info? 99).isSome = true ∧ IdxOk ve i) ∧ (0 < Try.prog.cellsOf 3) ∧ (CellOk (On w24) (hdB ve) (hdO ve + i.toNat * 2 + 0) (.int .i64 ((E.getD i.toNat (0, 0)).1))) ∧ (True) ∧ (True) ∧ ((decide ((E.getD i.toNat (0, 0)).1 < 0)) = false → 0 < Try.prog.cellsOf 22) ∧ ((decide ((E.getD i.toNat (0, 0)).1 < 0)) = false → CellOk (On w24) b2 (0 + 1) (ve)) ∧ ((decide ((E.getD i.toNat (0, 0)).1 < 0)) = false → True) ∧ ((decide ((E.getD i.toNat (0, 0)).1 < 0)) = false → (Try.prog.info? 99).isSome = true ∧ IdxOk ve i) ∧ ((decide ((E.getD i.toNat (0, 0)).1 < 0)) = false → 0 < Try.prog.cellsOf 3) ∧ ((decide ((E.getD i.toNat (0, 0)).1 < 0)) = false → CellOk (On w24) (hdB ve) (hdO ve + i.toNat * 2 + 0) (.int .i64 ((E.getD i.toNat (0, 0)).1))) ∧ ((decide ((E.getD i.toNat (0, 0)).1 < 0)) = false → 0 < Try.prog.cellsOf 3) ∧ ((decide ((E.getD i.toNat (0, 0)).1 < 0)) = false → CellOk (On w24) b2 (0 + 0) (.int .i64 n)) ∧ ((decide ((E.getD i.toNat (0, 0)).1 < 0)) = false → True) ∧ (True) ∧ (True) ∧ (((decide ((E.getD i.toNat (0, 0)).1 < 0)) || (decide (n ≤ (E.getD i.toNat (0, 0)).1))) = false → 0 < Try.prog.cellsOf 22) ∧ (((decide ((E.getD i.toNat (0, 0)).1 < 0)) || (decide (n ≤ (E.getD i.toNat (0, 0)).1))) = false → CellOk (On w24) b2 (0 + 1) (ve)) ∧ (((decide ((E.getD i.toNat (0, 0)).1 < 0)) || (decide (n ≤ (E.getD i.toNat (0, 0)).1))) = false → True) ∧ (((decide ((E.getD i.toNat (0, 0)).1 < 0)) || (decide (n ≤ (E.getD i.toNat (0, 0)).1))) = false → (Try.prog.info? 99).isSome = true ∧ IdxOk ve i) ∧ (((decide ((E.getD i.toNat (0, 0)).1 < 0)) || (decide (n ≤ (E.getD i.toNat (0, 0)).1))) = false → 0 < Try.prog.cellsOf 3) ∧ (((decide ((E.getD i.toNat (0, 0)).1 < 0)) || (decide (n ≤ (E.getD i.toNat (0, 0)).1))) = false → CellOk (On w24) (hdB ve) (hdO ve + i.toNat * 2 + 1) (.int .i64 ((E.getD i.toNat (0, 0)).2))) ∧ (((decide ((E.getD i.toNat (0, 0)).1 < 0)) || (decide (n ≤ (E.getD i.toNat (0, 0)).1))) = false → True) ∧ (True) ∧ (True) ∧ ((((decide ((E.getD i.toNat (0, 0)).1 < 0)) || (decide (n ≤ (E.getD i.toNat (0, 0)).1))) || (decide ((E.getD i.toNat (0, 0)).2 < 0))) = false → 0 < Try.prog.cellsOf 22) ∧ ((((decide ((E.getD i.toNat (0, 0)).1 < 0)) || (decide (n ≤ (E.getD i.toNat (0, 0)).1))) || (decide ((E.getD i.toNat (0, 0)).2 < 0))) = false → CellOk (On w24) b2 (0 + 1) (ve)) ∧ ((((decide ((E.getD i.toNat (0, 0)).1 < 0)) || (decide (n ≤ (E.getD i.toNat (0, 0)).1))) || (decide ((E.getD i.toNat (0, 0)).2 < 0))) = false → True) ∧ ((((decide ((E.getD i.toNat (0, 0)).1 < 0)) || (decide (n ≤ (E.getD i.toNat (0, 0)).1))) || (decide ((E.getD i.toNat (0, 0)).2 < 0))) = false → (Try.prog.info? 99).isSome = true ∧ IdxOk ve i) ∧ ((((decide ((E.getD i.toNat (0, 0)).1 < 0)) || (decide (n ≤ (E.getD i.toNat (0, 0)).1))) || (decide ((E.getD i.toNat (0, 0)).2 < 0))) = false → 0 < Try.prog.cellsOf 3) ∧ ((((decide ((E.getD i.toNat (0, 0)).1 < 0)) || (decide (n ≤ (E.getD i.toNat (0, 0)).1))) || (decide ((E.getD i.toNat (0, 0)).2 < 0))) = false → CellOk (On w24) (hdB ve) (hdO ve + i.toNat * 2 + 1) (.int .i64 ((E.getD i.toNat (0, 0)).2))) ∧ ((((decide ((E.getD i.toNat (0, 0)).1 < 0)) || (decide (n ≤ (E.getD i.toNat (0, 0)).1))) || (decide ((E.getD i.toNat (0, 0)).2 < 0))) = false → 0 < Try.prog.cellsOf 3) ∧ ((((decide ((E.getD i.toNat (0, 0)).1 < 0)) || (decide (n ≤ (E.getD i.toNat (0, 0)).1))) || (decide ((E.getD i.toNat (0, 0)).2 < 0))) = false → CellOk (On w24) b2 (0 + 0) (.int .i64 n)) ∧ ((((decide ((E.getD i.toNat (0, 0)).1 < 0)) || (decide (n ≤ (E.getD i.toNat (0, 0)).1))) || (decide ((E.getD i.toNat (0, 0)).2 < 0))) = false → True) ∧ (True) ∧ True) hA H ⟨by decide +kernel, by exact box_cell H 0 rfl 1, trivial, ⟨by kernel_rfl, by exact idx_ok (H.arg hE) (by omega) (by omega)⟩, by decide +kernel, by exact cell_flat (i := i) (H.arg hE) (by omega) (by omega) (0, 0) 0, trivial, trivial, fun _ => by decide +kernel, fun _ => by exact box_cell H 0 rfl 1, fun _ => trivial, fun hg0 => by replace hg0 := of_decide_eq_false hg0; exact ⟨by kernel_rfl, by exact idx_ok (H.arg hE) (by omega) (by omega)⟩, fun _ => by decide +kernel, fun hg0 => by replace hg0 := of_decide_eq_false hg0; exact by exact cell_flat (i := i) (H.arg hE) (by omega) (by omega) (0, 0) 0, fun _ => by decide +kernel, fun _ => by exact box_cell H 0 rfl 0, fun _ => trivial, trivial, trivial, fun _ => by decide +kernel, fun _ => by exact box_cell H 0 rfl 1, fun _ => trivial, fun hg0 => by replace hg0 := (⟨of_decide_eq_false ((oF hg0).1), of_decide_eq_false ((oF hg0).2)⟩ : _ ∧ _); exact ⟨by kernel_rfl, by exact idx_ok (H.arg hE) (by omega) (by omega)⟩, fun _ => by decide +kernel, fun hg0 => by replace hg0 := (⟨of_decide_eq_false ((oF hg0).1), of_decide_eq_false ((oF hg0).2)⟩ : _ ∧ _); exact by exact cell_flat (i := i) (H.arg hE) (by omega) (by omega) (0, 0) 1, fun _ => trivial, trivial, trivial, fun _ => by decide +kernel, fun _ => by exact box_cell H 0 rfl 1, fun _ => trivial, fun hg0 => by replace hg0 := (⟨(⟨of_decide_eq_false ((oF ((oF hg0).1)).1), of_decide_eq_false ((oF ((oF hg0).1)).2)⟩ : _ ∧ _), of_decide_eq_false ((oF hg0).2)⟩ : _ ∧ _); exact ⟨by kernel_rfl, by exact idx_ok (H.arg hE) (by omega) (by omega)⟩, fun _ => by decide +kernel, fun hg0 => by replace hg0 := (⟨(⟨of_decide_eq_false ((oF ((oF hg0).1)).1), of_decide_eq_false ((oF ((oF hg0).1)).2)⟩ : _ ∧ _), of_decide_eq_false ((oF hg0).2)⟩ : _ ∧ _); exact by exact cell_flat (i := i) (H.arg hE) (by omega) (by omega) (0, 0) 1, fun _ => by decide +kernel, fun _ => by exact box_cell H 0 rfl 0, fun _ => trivial, trivial, trivial⟩ fun a w28 hA H _ => ?_
        refine hK27 _ _ ?_
        refine go_cond hA (.tmp 69) ((((decide ((E.getD i.toNat (0, 0)).1 < 0)) || (decide (n ≤ (E.getD i.toNat (0, 0)).1))) || (decide ((E.getD i.toNat (0, 0)).2 < 0))) || (decide (n ≤ (E.getD i.toNat (0, 0)).2))) (fun hb29 => ?_) (fun hb29 => ?_)
        · have hhb29 := (oT hb29).imp (fun h => (oT h).imp (fun h => (oT h).imp (fun h => of_decide_eq_true h) (fun h => of_decide_eq_true h)) (fun h => of_decide_eq_true h)) (fun h => of_decide_eq_true h)
          refine go_seq fun K30 hK30 => ?_
          refine q_reg [] [(2, .int .i64 3)] ((True) ∧ True) hA H ⟨trivial, trivial⟩ fun a w31 hA H _ => ?_
          refine hK30 _ _ ?_
          refine go_ret_ ?_
          refine ret_one 2 (.int .i64 3) hA ?_
          exact ans_i' ((rightE_bad (by omega) (by omega) (by omega) h0 (by omega) (by unfold okE; have := hhb29; omega)).symm) H.below
        · have hhb29 := (⟨(⟨(⟨of_decide_eq_false ((oF ((oF ((oF hb29).1)).1)).1), of_decide_eq_false ((oF ((oF ((oF hb29).1)).1)).2)⟩ : _ ∧ _), of_decide_eq_false ((oF ((oF hb29).1)).2)⟩ : _ ∧ _), of_decide_eq_false ((oF hb29).2)⟩ : _ ∧ _)
          refine go_skip ?_
          refine hK26 _ _ ?_
          refine q_reg [] [(1, .pointer (some ⟨b2, 0, none⟩)), (3, .int .i64 (i + 1))] ((True) ∧ (InR .i64 (i + 1)) ∧ (True) ∧ True) hA H ⟨trivial, ⟨by omega, by omega⟩, trivial, trivial⟩ fun a w32 hA H _ => ?_
          refine ⟨(i + 1), ⟨env_sub _ hA, ⟨_, H⟩, ?_⟩, ?_⟩
          · (try dsimp only); exact ⟨by omega, fun j hj => if e : (j : Int) = i then (by rw [show j = i.toNat by omega]; unfold okE; have := hhb29; omega) else hok j (by omega)⟩
          · (try dsimp only); omega
      · have hhb25 := of_decide_eq_false hb25
        refine go_exit 0 ?_
        refine hK17 _ _ ?_
        refine go_seq fun K33 hK33 => ?_
        refine q_reg [] [(2, .int .i64 0)] ((True) ∧ True) hA H ⟨trivial, trivial⟩ fun a w34 hA H _ => ?_
        refine hK33 _ _ ?_
        refine go_ret_ ?_
        refine ret_one 2 (.int .i64 0) hA ?_
        exact ans_i' ((rightE_ok (by omega) (by omega) (by omega) (by omega) hok).symm) H.below

set_option maxRecDepth 100000 in
set_option maxHeartbeats 1000000 in
theorem rrightPart_any (n : Int) (ve : Value) (E : List (Int × Int)) (vv vl : Value) (V L : List Int) (w : World) (hn : -9223372036854775808 ≤ n ∧ n ≤ 9223372036854775807) (hE : Rd (· < w.heap.size) w ve E) (hV : Rd (· < w.heap.size) w vv V) (hL : Rd (· < w.heap.size) w vl L) :
  Calls Try.prog 32 [.agg #[.int .i64 n, ve], .agg #[vv, vl]].toArray w (Ans (.int .i64 (partE n E V L)) w) := by
  have hlenE := rd_len hE
  have hlenL := rd_len hL
  refine enter Try.f32 64 Try.func32 fun a hA => ?_
  replace hA := env_sub [(0, .agg #[.int .i64 n, ve]), (1, .agg #[vv, vl])] hA
  have H := Fr.start (org w)
  refine go_seq fun K1 hK1 => ?_
  refine region_list ?_
  refine list_at 0 ?_; refine q_box 0 2 24 (.tmp 0) (.agg #[.int .i64 n, ve]) [.int .i64 n, ve] [(1, .agg #[vv, vl])] hA H fun b2 a w3 H hA hG hge_b2 => ?_
  clear hge_b2
  refine list_at 1 ?_; refine q_box 1 3 29 (.tmp 1) (.agg #[vv, vl]) [vv, vl] [(2, .pointer (some ⟨b2, 0, none⟩))] hA H fun b4 a w5 H hA hG hge_b4 => ?_
  clear hge_b4
  refine q_list 2 1 [] [(2, .pointer (some ⟨b2, 0, none⟩)), (3, .pointer (some ⟨b4, 0, none⟩))] ((True) ∧ True) hA H ⟨trivial, trivial⟩ fun a w6 hA H _ => ?_
  refine list_end ?_
  refine hK1 _ _ ?_
  refine go_seq fun K7 hK7 => ?_
  refine q_reg [(7, .agg #[.int .i64 n, ve]), (8, .int .i64 (rightE n E))] [(2, .pointer (some ⟨b2, 0, none⟩)), (3, .pointer (some ⟨b4, 0, none⟩)), (5, .int .i64 (rightE n E))] (((Try.prog.info? 24).isSome = true ∧ RowOk (On w6) b2 (0) (Try.prog.cellsOf 24) #[.int .i64 n, ve]) ∧ (Callable Try.prog 27 ∧ CallOk Try.prog (On w6) 27 [.agg #[.int .i64 n, ve]].toArray (.int .i64 (rightE n E))) ∧ (True) ∧ True) hA H ⟨⟨by kernel_rfl, by exact box_row H 1 rfl 0 2⟩, ⟨callable_of, callOk_of fun w hw => by exact rright_any n ve E w (by omega) (((H.on hw).arg hE))⟩, trivial, trivial⟩ fun a w8 hA H _ => ?_
  refine hK7 _ _ ?_
  refine go_seq fun K9 hK9 => ?_
  refine go_seq fun K10 hK10 => ?_
  refine q_reg [] [(2, .pointer (some ⟨b2, 0, none⟩)), (3, .pointer (some ⟨b4, 0, none⟩)), (5, .int .i64 (rightE n E)), (10, .bool (!decide (rightE n E = 0)))] ((True) ∧ (True) ∧ True) hA H ⟨trivial, trivial, trivial⟩ fun a w11 hA H _ => ?_
  refine hK10 _ _ ?_
  refine go_cond hA (.tmp 10) (!decide (rightE n E = 0)) (fun hb12 => ?_) (fun hb12 => ?_)
  · have hhb12 := of_decide_eq_false (nT hb12)
    refine go_seq fun K13 hK13 => ?_
    refine q_reg [] [(4, .int .i64 (rightE n E))] ((True) ∧ (True) ∧ True) hA H ⟨trivial, trivial, trivial⟩ fun a w14 hA H _ => ?_
    refine hK13 _ _ ?_
    refine go_ret_ ?_
    refine ret_one 4 (.int .i64 (rightE n E)) hA ?_
    exact ans_i' (by unfold partE; rw [if_pos hhb12]) H.below
  · have hhb12 := of_decide_eq_true (nF hb12)
    refine go_skip ?_
    refine hK9 _ _ ?_
    refine go_seq fun K15 hK15 => ?_
    refine go_seq fun K16 hK16 => ?_
    refine q_reg [(13, vv), (15, .int .i64 n), (16, .bool (decide (risesP V n))), (20, vl), (22, ve), (23, .int .i64 (E.length : Int)), (24, .bool (decide (risesP L (E.length : Int))))] [(2, .pointer (some ⟨b2, 0, none⟩)), (3, .pointer (some ⟨b4, 0, none⟩)), (26, .bool ((!(decide (risesP V n))) || (!(decide (risesP L (E.length : Int))))))] ((0 < Try.prog.cellsOf 27) ∧ (CellOk (On w11) b4 (0 + 0) (vv)) ∧ (0 < Try.prog.cellsOf 3) ∧ (CellOk (On w11) b2 (0 + 0) (.int .i64 n)) ∧ (Callable Try.prog 25 ∧ CallOk Try.prog (On w11) 25 [vv, .int .i64 n].toArray (.bool (decide (risesP V n)))) ∧ (True) ∧ (True) ∧ ((!(decide (risesP V n))) = false → 0 < Try.prog.cellsOf 27) ∧ ((!(decide (risesP V n))) = false → CellOk (On w11) b4 (0 + 1) (vl)) ∧ ((!(decide (risesP V n))) = false → 0 < Try.prog.cellsOf 22) ∧ ((!(decide (risesP V n))) = false → CellOk (On w11) b2 (0 + 1) (ve)) ∧ ((!(decide (risesP V n))) = false → LenOk ve (E.length : Int)) ∧ ((!(decide (risesP V n))) = false → Callable Try.prog 25 ∧ CallOk Try.prog (On w11) 25 [vl, .int .i64 (E.length : Int)].toArray (.bool (decide (risesP L (E.length : Int))))) ∧ ((!(decide (risesP V n))) = false → True) ∧ (True) ∧ True) hA H ⟨by decide +kernel, by exact box_cell H 0 rfl 0, by decide +kernel, by exact box_cell H 1 rfl 0, ⟨callable_of, callOk_of fun w hw => by exact rises_any vv V n w (((H.on hw).arg hV))⟩, trivial, trivial, fun _ => by decide +kernel, fun _ => by exact box_cell H 0 rfl 1, fun _ => by decide +kernel, fun _ => by exact box_cell H 1 rfl 1, fun _ => by exact len_ok (H.arg hE), fun _ => ⟨callable_of, callOk_of fun w hw => by exact rises_any vl L (E.length : Int) w (((H.on hw).arg hL))⟩, fun _ => trivial, trivial, trivial⟩ fun a w17 hA H _ => ?_
    refine hK16 _ _ ?_
    refine go_cond hA (.tmp 26) ((!(decide (risesP V n))) || (!(decide (risesP L (E.length : Int))))) (fun hb18 => ?_) (fun hb18 => ?_)
    · have hhb18 := (oT hb18).imp (fun h => of_decide_eq_false (nT h)) (fun h => of_decide_eq_false (nT h))
      refine go_seq fun K19 hK19 => ?_
      refine q_reg [] [(4, .int .i64 4)] ((True) ∧ True) hA H ⟨trivial, trivial⟩ fun a w20 hA H _ => ?_
      refine hK19 _ _ ?_
      refine go_ret_ ?_
      refine ret_one 4 (.int .i64 4) hA ?_
      exact ans_i' (by unfold partE; rw [if_neg (by omega), if_pos hhb18]) H.below
    · have hhb18 := (⟨of_decide_eq_true (nF ((oF hb18).1)), of_decide_eq_true (nF ((oF hb18).2))⟩ : _ ∧ _)
      refine go_skip ?_
      refine hK15 _ _ ?_
      refine go_seq fun K21 hK21 => ?_
      refine go_seq fun K22 hK22 => ?_
      have hr0 := rightE_0 (n := n) (E := E) (by omega)
      obtain ⟨hr1, hr2⟩ := hhb18
      have hv9 := rises_len hr1 (by omega)
      have hl9 := rises_len hr2 (by omega)
      refine q_reg [] [(2, .pointer (some ⟨b2, 0, none⟩)), (3, .pointer (some ⟨b4, 0, none⟩)), (6, .int .i64 0)] ((True) ∧ True) hA H ⟨trivial, trivial⟩ fun a w23 hA H _ => ?_
      refine hK22 _ _ ?_
      refine go_block 0 ?_
      refine go_loop_ (Int) (fun x_ a W => (fun (i : Int) => EnvOk 64 a (keepEnv [(2, .pointer (some ⟨b2, 0, none⟩)), (3, .pointer (some ⟨b4, 0, none⟩)), (6, .int .i64 i)]) ∧ (∃ S, Fr (org w) W S [.box b4 29 [vv, vl], .box b2 24 [.int .i64 n, ve]]) ∧ 0 ≤ i ∧ ∀ j : Nat, (j : Int) < i → hasB V (E.getD (L.getD j 0).toNat (0, 0)).1 = true ∧ hasB V (E.getD (L.getD j 0).toNat (0, 0)).2 = true) x_) (fun x_ => (fun (i : Int) => ((L.length : Int) - i).toNat) x_) (0) ?_ (fun i a w25 hI => ?_)
      · (try dsimp only); exact ⟨env_sub _ hA, ⟨_, H⟩, by omega, fun j hj => by omega⟩
      obtain ⟨hA, ⟨S, H⟩, h0, hok⟩ := hI
      try dsimp only at h0 hok
      refine go_seq fun K26 hK26 => ?_
      refine go_seq fun K27 hK27 => ?_
      refine q_reg [(29, vl), (30, .int .i64 (L.length : Int))] [(2, .pointer (some ⟨b2, 0, none⟩)), (3, .pointer (some ⟨b4, 0, none⟩)), (6, .int .i64 i), (31, .bool (decide (i < (L.length : Int))))] ((True) ∧ (0 < Try.prog.cellsOf 27) ∧ (CellOk (On w25) b4 (0 + 1) (vl)) ∧ (LenOk vl (L.length : Int)) ∧ (True) ∧ True) hA H ⟨trivial, by decide +kernel, by exact box_cell H 0 rfl 1, by exact len_ok (H.arg hL), trivial, trivial⟩ fun a w28 hA H _ => ?_
      refine hK27 _ _ ?_
      refine go_cond hA (.tmp 31) (decide (i < (L.length : Int))) (fun hb29 => ?_) (fun hb29 => ?_)
      · have hhb29 := of_decide_eq_true hb29
        refine go_skip ?_
        refine hK26 _ _ ?_
        refine go_seq fun K30 hK30 => ?_
        refine go_block 1 ?_
        refine go_seq fun K31 hK31 => ?_
        have hx := hr2 i.toNat (by omega)
        refine q_draw [(35, vv), (37, ve), (39, vl), (42, .int .i64 (L.getD i.toNat 0)), (45, .int .i64 ((E.getD (L.getD i.toNat 0).toNat (0, 0)).1)), (46, .bool (decide ((E.getD (L.getD i.toNat 0).toNat (0, 0)).1 ∈ V))), (50, vv), (52, ve), (54, vl), (57, .int .i64 (L.getD i.toNat 0)), (60, .int .i64 ((E.getD (L.getD i.toNat 0).toNat (0, 0)).2)), (61, .bool (decide ((E.getD (L.getD i.toNat 0).toNat (0, 0)).2 ∈ V)))] [(2, .pointer (some ⟨b2, 0, none⟩)), (3, .pointer (some ⟨b4, 0, none⟩)), (6, .int .i64 i), (63, .bool ((!(decide ((E.getD (L.getD i.toNat 0).toNat (0, 0)).1 ∈ V))) || (!(decide ((E.getD (L.getD i.toNat 0).toNat (0, 0)).2 ∈ V)))))] ((0 < Try.prog.cellsOf 27) ∧ (CellOk (On w28) b4 (0 + 0) (vv)) ∧ (0 < Try.prog.cellsOf 22) ∧ (CellOk (On w28) b2 (0 + 1) (ve)) ∧ (0 < Try.prog.cellsOf 27) ∧ (CellOk (On w28) b4 (0 + 1) (vl)) ∧ (True) ∧ ((Try.prog.info? 3).isSome = true ∧ IdxOk vl i) ∧ (CellOk (On w28) (hdB vl) (hdO vl + i.toNat * 1) (.int .i64 (L.getD i.toNat 0))) ∧ ((Try.prog.info? 99).isSome = true ∧ IdxOk ve (L.getD i.toNat 0)) ∧ (0 < Try.prog.cellsOf 3) ∧ (CellOk (On w28) (hdB ve) (hdO ve + (L.getD i.toNat 0).toNat * 2 + 0) (.int .i64 ((E.getD (L.getD i.toNat 0).toNat (0, 0)).1))) ∧ (Callable Try.prog 24 ∧ CallOk Try.prog (On w28) 24 [vv, .int .i64 ((E.getD (L.getD i.toNat 0).toNat (0, 0)).1)].toArray (.bool (decide ((E.getD (L.getD i.toNat 0).toNat (0, 0)).1 ∈ V)))) ∧ (True) ∧ (True) ∧ ((!(decide ((E.getD (L.getD i.toNat 0).toNat (0, 0)).1 ∈ V))) = false → 0 < Try.prog.cellsOf 27) ∧ ((!(decide ((E.getD (L.getD i.toNat 0).toNat (0, 0)).1 ∈ V))) = false → CellOk (On w28) b4 (0 + 0) (vv)) ∧ ((!(decide ((E.getD (L.getD i.toNat 0).toNat (0, 0)).1 ∈ V))) = false → 0 < Try.prog.cellsOf 22) ∧ ((!(decide ((E.getD (L.getD i.toNat 0).toNat (0, 0)).1 ∈ V))) = false → CellOk (On w28) b2 (0 + 1) (ve)) ∧ ((!(decide ((E.getD (L.getD i.toNat 0).toNat (0, 0)).1 ∈ V))) = false → 0 < Try.prog.cellsOf 27) ∧ ((!(decide ((E.getD (L.getD i.toNat 0).toNat (0, 0)).1 ∈ V))) = false → CellOk (On w28) b4 (0 + 1) (vl)) ∧ ((!(decide ((E.getD (L.getD i.toNat 0).toNat (0, 0)).1 ∈ V))) = false → True) ∧ ((!(decide ((E.getD (L.getD i.toNat 0).toNat (0, 0)).1 ∈ V))) = false → (Try.prog.info? 3).isSome = true ∧ IdxOk vl i) ∧ ((!(decide ((E.getD (L.getD i.toNat 0).toNat (0, 0)).1 ∈ V))) = false → CellOk (On w28) (hdB vl) (hdO vl + i.toNat * 1) (.int .i64 (L.getD i.toNat 0))) ∧ ((!(decide ((E.getD (L.getD i.toNat 0).toNat (0, 0)).1 ∈ V))) = false → (Try.prog.info? 99).isSome = true ∧ IdxOk ve (L.getD i.toNat 0)) ∧ ((!(decide ((E.getD (L.getD i.toNat 0).toNat (0, 0)).1 ∈ V))) = false → 0 < Try.prog.cellsOf 3) ∧ ((!(decide ((E.getD (L.getD i.toNat 0).toNat (0, 0)).1 ∈ V))) = false → CellOk (On w28) (hdB ve) (hdO ve + (L.getD i.toNat 0).toNat * 2 + 1) (.int .i64 ((E.getD (L.getD i.toNat 0).toNat (0, 0)).2))) ∧ ((!(decide ((E.getD (L.getD i.toNat 0).toNat (0, 0)).1 ∈ V))) = false → Callable Try.prog 24 ∧ CallOk Try.prog (On w28) 24 [vv, .int .i64 ((E.getD (L.getD i.toNat 0).toNat (0, 0)).2)].toArray (.bool (decide ((E.getD (L.getD i.toNat 0).toNat (0, 0)).2 ∈ V)))) ∧ ((!(decide ((E.getD (L.getD i.toNat 0).toNat (0, 0)).1 ∈ V))) = false → True) ∧ (True) ∧ True) hA H ⟨by decide +kernel, by exact box_cell H 0 rfl 0, by decide +kernel, by exact box_cell H 1 rfl 1, by decide +kernel, by exact box_cell H 0 rfl 1, trivial, ⟨by kernel_rfl, by exact idx_ok (H.arg hL) (by omega) (by omega)⟩, by exact cell_flat (i := i) (H.arg hL) (by omega) (by omega) 0 0, ⟨by kernel_rfl, by exact idx_ok (H.arg hE) (by omega) (by omega)⟩, by decide +kernel, by exact cell_flat (i := (L.getD i.toNat 0)) (H.arg hE) (by omega) (by omega) (0, 0) 0, ⟨callable_of, callOk_of fun w hw => by exact in_any vv V ((E.getD (L.getD i.toNat 0).toNat (0, 0)).1) w (((H.on hw).arg hV))⟩, trivial, trivial, fun _ => by decide +kernel, fun _ => by exact box_cell H 0 rfl 0, fun _ => by decide +kernel, fun _ => by exact box_cell H 1 rfl 1, fun _ => by decide +kernel, fun _ => by exact box_cell H 0 rfl 1, fun _ => trivial, fun hg0 => by replace hg0 := of_decide_eq_true (nF hg0); exact ⟨by kernel_rfl, by exact idx_ok (H.arg hL) (by omega) (by omega)⟩, fun hg0 => by replace hg0 := of_decide_eq_true (nF hg0); exact by exact cell_flat (i := i) (H.arg hL) (by omega) (by omega) 0 0, fun hg0 => by replace hg0 := of_decide_eq_true (nF hg0); exact ⟨by kernel_rfl, by exact idx_ok (H.arg hE) (by omega) (by omega)⟩, fun _ => by decide +kernel, fun hg0 => by replace hg0 := of_decide_eq_true (nF hg0); exact by exact cell_flat (i := (L.getD i.toNat 0)) (H.arg hE) (by omega) (by omega) (0, 0) 1, fun _ => ⟨callable_of, callOk_of fun w hw => by exact in_any vv V ((E.getD (L.getD i.toNat 0).toNat (0, 0)).2) w (((H.on hw).arg hV))⟩, fun _ => trivial, trivial, trivial⟩ fun a w32 hA H _ => ?_
        refine hK31 _ _ ?_
        refine go_cond hA (.tmp 63) ((!(decide ((E.getD (L.getD i.toNat 0).toNat (0, 0)).1 ∈ V))) || (!(decide ((E.getD (L.getD i.toNat 0).toNat (0, 0)).2 ∈ V)))) (fun hb33 => ?_) (fun hb33 => ?_)
        · have hhb33 := (oT hb33).imp (fun h => of_decide_eq_false (nT h)) (fun h => of_decide_eq_false (nT h))
          refine go_seq fun K34 hK34 => ?_
          refine q_reg [] [(4, .int .i64 4)] ((True) ∧ True) hA H ⟨trivial, trivial⟩ fun a w35 hA H _ => ?_
          refine hK34 _ _ ?_
          refine go_ret_ ?_
          refine ret_one 4 (.int .i64 4) hA ?_
          exact ans_i' (by unfold partE; rw [if_neg (by omega), if_neg (by rintro (q | q); exact q hr1; exact q hr2), if_neg (fun q : okPart E V L => by have z := q i.toNat (by omega); rw [hasB_mem hr1, hasB_mem hr1] at z; rcases hhb33 with y | y; exact y (of_decide_eq_true z.1); exact y (of_decide_eq_true z.2))]) H.below
        · have hhb33 := (⟨of_decide_eq_true (nF ((oF hb33).1)), of_decide_eq_true (nF ((oF hb33).2))⟩ : _ ∧ _)
          refine go_skip ?_
          refine hK30 _ _ ?_
          refine q_reg [] [(2, .pointer (some ⟨b2, 0, none⟩)), (3, .pointer (some ⟨b4, 0, none⟩)), (6, .int .i64 (i + 1))] ((True) ∧ (InR .i64 (i + 1)) ∧ (True) ∧ True) hA H ⟨trivial, ⟨by omega, by omega⟩, trivial, trivial⟩ fun a w36 hA H _ => ?_
          refine ⟨(i + 1), ⟨env_sub _ hA, ⟨_, H⟩, ?_⟩, ?_⟩
          · (try dsimp only); exact ⟨by omega, fun j hj => if e : (j : Int) = i then (by rw [show j = i.toNat by omega, hasB_mem hr1, hasB_mem hr1]; exact ⟨decide_eq_true hhb33.1, decide_eq_true hhb33.2⟩) else hok j (by omega)⟩
          · (try dsimp only); omega
      · have hhb29 := of_decide_eq_false hb29
        refine go_exit 0 ?_
        refine hK21 _ _ ?_
        refine go_seq fun K37 hK37 => ?_
        refine q_reg [] [(4, .int .i64 0)] ((True) ∧ True) hA H ⟨trivial, trivial⟩ fun a w38 hA H _ => ?_
        refine hK37 _ _ ?_
        refine go_ret_ ?_
        refine ret_one 4 (.int .i64 0) hA ?_
        exact ans_i' (by unfold partE; rw [if_neg (by omega), if_neg (by rintro (q | q); exact q hr1; exact q hr2), if_pos (show okPart E V L from fun j hj => hok j (by omega))]) H.below

set_option maxRecDepth 100000 in
set_option maxHeartbeats 1000000 in
theorem twin_any (d : Int) (w : World) (h0 : 0 ≤ d) (h1 : d ≤ 1000000000000) :
  Calls Try.prog 21 [.int .i64 d].toArray w (Ans (.int .i64 (twinE d)) w) := by
  refine enter Try.f21 10 Try.func21 fun a hA => ?_
  replace hA := env_sub [(0, .int .i64 d)] hA
  have H := Fr.start (org w)
  refine go_seq fun K1 hK1 => ?_
  refine q_reg [] [(0, .int .i64 d)] ((True) ∧ True) hA H ⟨trivial, trivial⟩ fun a w2 hA H _ => ?_
  refine hK1 _ _ ?_
  refine go_seq fun K3 hK3 => ?_
  refine go_seq fun K4 hK4 => ?_
  refine q_reg [] [(0, .int .i64 d), (5, .bool (decide (d % 2 = 0)))] ((True) ∧ (0 ≤ d ∧ 0 < (2 : Int)) ∧ (True) ∧ True) hA H ⟨trivial, ⟨by omega, by omega⟩, trivial, trivial⟩ fun a w5 hA H _ => ?_
  refine hK4 _ _ ?_
  refine go_cond hA (.tmp 5) (decide (d % 2 = 0)) (fun hb6 => ?_) (fun hb6 => ?_)
  · have hhb6 := of_decide_eq_true hb6
    refine go_seq fun K7 hK7 => ?_
    refine q_reg [] [(2, .int .i64 (d + 1))] ((True) ∧ (InR .i64 (d + 1)) ∧ (True) ∧ True) hA H ⟨trivial, ⟨by omega, by omega⟩, trivial, trivial⟩ fun a w8 hA H _ => ?_
    refine hK7 _ _ ?_
    refine go_ret_ ?_
    refine ret_one 2 (.int .i64 (d + 1)) hA ?_
    exact ans_i' (by unfold twinE; first | rw [if_pos (by omega)] | rw [if_neg (by omega)]) H.below
  · have hhb6 := of_decide_eq_false hb6
    refine go_skip ?_
    refine hK3 _ _ ?_
    refine go_seq fun K9 hK9 => ?_
    refine q_reg [] [(2, .int .i64 (d - 1))] ((True) ∧ (InR .i64 (d - 1)) ∧ (True) ∧ True) hA H ⟨trivial, ⟨by omega, by omega⟩, trivial, trivial⟩ fun a w10 hA H _ => ?_
    refine hK9 _ _ ?_
    refine go_ret_ ?_
    refine ret_one 2 (.int .i64 (d - 1)) hA ?_
    exact ans_i' (by unfold twinE; first | rw [if_pos (by omega)] | rw [if_neg (by omega)]) H.below

set_option maxRecDepth 100000 in
set_option maxHeartbeats 1000000 in
theorem tail_any (n : Int) (ve : Value) (E : List (Int × Int)) (d : Int) (w : World) (hn : -9223372036854775808 ≤ n ∧ n ≤ 9223372036854775807) (hE : Rd (· < w.heap.size) w ve E) (h0 : 0 ≤ d) (h1 : d / 2 < (E.length : Int)) (h2 : d ≤ 1000000000000) :
  Calls Try.prog 34 [.agg #[.int .i64 n, ve], .int .i64 d].toArray w (Ans (.int .i64 (tailE E d)) w) := by
  refine enter Try.f34 22 Try.func34 fun a hA => ?_
  replace hA := env_sub [(0, .agg #[.int .i64 n, ve]), (1, .int .i64 d)] hA
  have H := Fr.start (org w)
  refine go_seq fun K1 hK1 => ?_
  refine region_list ?_
  refine list_at 0 ?_; refine q_box 0 2 24 (.tmp 0) (.agg #[.int .i64 n, ve]) [.int .i64 n, ve] [(1, .int .i64 d)] hA H fun b2 a w3 H hA hG hge_b2 => ?_
  clear hge_b2
  refine q_list 1 1 [] [(1, .int .i64 d), (2, .pointer (some ⟨b2, 0, none⟩))] ((True) ∧ True) hA H ⟨trivial, trivial⟩ fun a w4 hA H _ => ?_
  refine list_end ?_
  refine hK1 _ _ ?_
  refine go_seq fun K5 hK5 => ?_
  refine go_seq fun K6 hK6 => ?_
  refine q_reg [] [(1, .int .i64 d), (2, .pointer (some ⟨b2, 0, none⟩)), (7, .bool (decide (d % 2 = 0)))] ((True) ∧ (0 ≤ d ∧ 0 < (2 : Int)) ∧ (True) ∧ True) hA H ⟨trivial, ⟨by omega, by omega⟩, trivial, trivial⟩ fun a w7 hA H _ => ?_
  refine hK6 _ _ ?_
  refine go_cond hA (.tmp 7) (decide (d % 2 = 0)) (fun hb8 => ?_) (fun hb8 => ?_)
  · have hhb8 := of_decide_eq_true hb8
    refine go_seq fun K9 hK9 => ?_
    refine q_reg [(9, ve), (14, .int .i64 ((E.getD (d / 2).toNat (0, 0)).1))] [(4, .int .i64 ((E.getD (d / 2).toNat (0, 0)).1))] ((0 < Try.prog.cellsOf 22) ∧ (CellOk (On w7) b2 (0 + 1) (ve)) ∧ (True) ∧ (0 ≤ d ∧ 0 < (2 : Int) ∧ InR .i64 d) ∧ ((Try.prog.info? 99).isSome = true ∧ IdxOk ve (d / 2)) ∧ (0 < Try.prog.cellsOf 3) ∧ (CellOk (On w7) (hdB ve) (hdO ve + (d / 2).toNat * 2 + 0) (.int .i64 ((E.getD (d / 2).toNat (0, 0)).1))) ∧ (True) ∧ True) hA H ⟨by decide +kernel, by exact box_cell H 0 rfl 1, trivial, ⟨by omega, by omega, by omega, by omega⟩, ⟨by kernel_rfl, by exact idx_ok (H.arg hE) (by omega) (by omega)⟩, by decide +kernel, by exact cell_flat (i := d / 2) (H.arg hE) (by omega) (by omega) (0, 0) 0, trivial, trivial⟩ fun a w10 hA H _ => ?_
    refine hK9 _ _ ?_
    refine go_ret_ ?_
    refine ret_one 4 (.int .i64 ((E.getD (d / 2).toNat (0, 0)).1)) hA ?_
    exact ans_i' (by unfold tailE; first | rw [if_pos (by omega)] | rw [if_neg (by omega)]) H.below
  · have hhb8 := of_decide_eq_false hb8
    refine go_skip ?_
    refine hK5 _ _ ?_
    refine go_seq fun K11 hK11 => ?_
    refine q_reg [(16, ve), (21, .int .i64 ((E.getD (d / 2).toNat (0, 0)).2))] [(4, .int .i64 ((E.getD (d / 2).toNat (0, 0)).2))] ((0 < Try.prog.cellsOf 22) ∧ (CellOk (On w7) b2 (0 + 1) (ve)) ∧ (True) ∧ (0 ≤ d ∧ 0 < (2 : Int) ∧ InR .i64 d) ∧ ((Try.prog.info? 99).isSome = true ∧ IdxOk ve (d / 2)) ∧ (0 < Try.prog.cellsOf 3) ∧ (CellOk (On w7) (hdB ve) (hdO ve + (d / 2).toNat * 2 + 1) (.int .i64 ((E.getD (d / 2).toNat (0, 0)).2))) ∧ (True) ∧ True) hA H ⟨by decide +kernel, by exact box_cell H 0 rfl 1, trivial, ⟨by omega, by omega, by omega, by omega⟩, ⟨by kernel_rfl, by exact idx_ok (H.arg hE) (by omega) (by omega)⟩, by decide +kernel, by exact cell_flat (i := d / 2) (H.arg hE) (by omega) (by omega) (0, 0) 1, trivial, trivial⟩ fun a w12 hA H _ => ?_
    refine hK11 _ _ ?_
    refine go_ret_ ?_
    refine ret_one 4 (.int .i64 ((E.getD (d / 2).toNat (0, 0)).2)) hA ?_
    exact ans_i' (by unfold tailE; first | rw [if_pos (by omega)] | rw [if_neg (by omega)]) H.below

set_option maxRecDepth 100000 in
set_option maxHeartbeats 1000000 in
theorem head_any (n : Int) (ve : Value) (E : List (Int × Int)) (d : Int) (w : World) (hn : -9223372036854775808 ≤ n ∧ n ≤ 9223372036854775807) (hE : Rd (· < w.heap.size) w ve E) (h0 : 0 ≤ d) (h1 : d / 2 < (E.length : Int)) (h2 : d ≤ 1000000) :
  Calls Try.prog 35 [.agg #[.int .i64 n, ve], .int .i64 d].toArray w (Ans (.int .i64 (tailE E (twinE d))) w) := by
  have ht : 0 ≤ twinE d ∧ twinE d / 2 < (E.length : Int) ∧ twinE d ≤ 1000001 := by unfold twinE; split <;> omega
  refine enter Try.f35 9 Try.func35 fun a hA => ?_
  replace hA := env_sub [(0, .agg #[.int .i64 n, ve]), (1, .int .i64 d)] hA
  have H := Fr.start (org w)
  refine go_seq fun K1 hK1 => ?_
  refine region_list ?_
  refine list_at 0 ?_; refine q_box 0 2 24 (.tmp 0) (.agg #[.int .i64 n, ve]) [.int .i64 n, ve] [(1, .int .i64 d)] hA H fun b2 a w3 H hA hG hge_b2 => ?_
  clear hge_b2
  refine q_list 1 1 [] [(1, .int .i64 d), (2, .pointer (some ⟨b2, 0, none⟩))] ((True) ∧ True) hA H ⟨trivial, trivial⟩ fun a w4 hA H _ => ?_
  refine list_end ?_
  refine hK1 _ _ ?_
  refine go_seq fun K5 hK5 => ?_
  refine q_draw [(5, .agg #[.int .i64 n, ve]), (7, .int .i64 (twinE d)), (8, .int .i64 (tailE E (twinE d)))] [(4, .int .i64 (tailE E (twinE d)))] (((Try.prog.info? 24).isSome = true ∧ RowOk (On w4) b2 (0) (Try.prog.cellsOf 24) #[.int .i64 n, ve]) ∧ (True) ∧ (Callable Try.prog 21 ∧ CallOk Try.prog (On w4) 21 [.int .i64 d].toArray (.int .i64 (twinE d))) ∧ (Callable Try.prog 34 ∧ CallOk Try.prog (On w4) 34 [.agg #[.int .i64 n, ve], .int .i64 (twinE d)].toArray (.int .i64 (tailE E (twinE d)))) ∧ (True) ∧ True) hA H ⟨⟨by kernel_rfl, by exact box_row H 0 rfl 0 2⟩, trivial, ⟨callable_of, callOk_of fun w hw => by exact twin_any d w (by omega) (by omega)⟩, ⟨callable_of, callOk_of fun w hw => by exact tail_any n ve E (twinE d) w (by omega) (((H.on hw).arg hE)) (by omega) (by omega) (by omega)⟩, trivial, trivial⟩ fun a w6 hA H _ => ?_
  refine hK5 _ _ ?_
  refine go_ret_ ?_
  refine ret_one 4 (.int .i64 (tailE E (twinE d))) hA ?_
  exact ans_i' rfl H.below

set_option maxRecDepth 100000 in
set_option maxHeartbeats 1000000 in
theorem small_any (n : Int) (ve : Value) (E : List (Int × Int)) (vv vl : Value) (V L : List Int) (w : World) (hn : -9223372036854775808 ≤ n ∧ n ≤ 9223372036854775807) (hE : Rd (· < w.heap.size) w ve E) (hV : Rd (· < w.heap.size) w vv V) (hL : Rd (· < w.heap.size) w vl L) :
  Calls Try.prog 18 [.agg #[.int .i64 n, ve], .agg #[vv, vl]].toArray w (Ans (.int .i64 (smallI n E V L)) w) := by
  have hlen1 := rd_len hE
  have hlen2 := rd_len hV
  have hlen3 := rd_len hL
  refine enter Try.f18 31 Try.func18 fun a hA => ?_
  replace hA := env_sub [(0, .agg #[.int .i64 n, ve]), (1, .agg #[vv, vl])] hA
  have H := Fr.start (org w)
  refine go_seq fun K1 hK1 => ?_
  refine region_list ?_
  refine list_at 0 ?_; refine q_box 0 2 24 (.tmp 0) (.agg #[.int .i64 n, ve]) [.int .i64 n, ve] [(1, .agg #[vv, vl])] hA H fun b2 a w3 H hA hG hge_b2 => ?_
  clear hge_b2
  refine list_at 1 ?_; refine q_box 1 3 29 (.tmp 1) (.agg #[vv, vl]) [vv, vl] [(2, .pointer (some ⟨b2, 0, none⟩))] hA H fun b4 a w5 H hA hG hge_b4 => ?_
  clear hge_b4
  refine q_list 2 1 [] [(2, .pointer (some ⟨b2, 0, none⟩)), (3, .pointer (some ⟨b4, 0, none⟩))] ((True) ∧ True) hA H ⟨trivial, trivial⟩ fun a w6 hA H _ => ?_
  refine list_end ?_
  refine hK1 _ _ ?_
  refine go_seq fun K7 hK7 => ?_
  refine go_seq fun K8 hK8 => ?_
  refine q_reg [(6, ve), (7, .int .i64 (E.length : Int)), (11, vv), (12, .int .i64 (V.length : Int)), (17, vl), (18, .int .i64 (L.length : Int)), (23, .int .i64 n), (27, .int .i64 n)] [(30, .bool ((((decide ((60 : Int) < (E.length : Int))) || (decide ((60 : Int) < (V.length : Int)))) || (decide ((60 : Int) < (L.length : Int)))) || ((decide ((60 : Int) < n)) && (decide (n ≤ 1024)))))] ((0 < Try.prog.cellsOf 22) ∧ (CellOk (On w6) b2 (0 + 1) (ve)) ∧ (LenOk ve (E.length : Int)) ∧ (True) ∧ (True) ∧ ((decide ((60 : Int) < (E.length : Int))) = false → 0 < Try.prog.cellsOf 27) ∧ ((decide ((60 : Int) < (E.length : Int))) = false → CellOk (On w6) b4 (0 + 0) (vv)) ∧ ((decide ((60 : Int) < (E.length : Int))) = false → LenOk vv (V.length : Int)) ∧ ((decide ((60 : Int) < (E.length : Int))) = false → True) ∧ (True) ∧ (True) ∧ (((decide ((60 : Int) < (E.length : Int))) || (decide ((60 : Int) < (V.length : Int)))) = false → 0 < Try.prog.cellsOf 27) ∧ (((decide ((60 : Int) < (E.length : Int))) || (decide ((60 : Int) < (V.length : Int)))) = false → CellOk (On w6) b4 (0 + 1) (vl)) ∧ (((decide ((60 : Int) < (E.length : Int))) || (decide ((60 : Int) < (V.length : Int)))) = false → LenOk vl (L.length : Int)) ∧ (((decide ((60 : Int) < (E.length : Int))) || (decide ((60 : Int) < (V.length : Int)))) = false → True) ∧ (True) ∧ (True) ∧ ((((decide ((60 : Int) < (E.length : Int))) || (decide ((60 : Int) < (V.length : Int)))) || (decide ((60 : Int) < (L.length : Int)))) = false → 0 < Try.prog.cellsOf 3) ∧ ((((decide ((60 : Int) < (E.length : Int))) || (decide ((60 : Int) < (V.length : Int)))) || (decide ((60 : Int) < (L.length : Int)))) = false → CellOk (On w6) b2 (0 + 0) (.int .i64 n)) ∧ ((((decide ((60 : Int) < (E.length : Int))) || (decide ((60 : Int) < (V.length : Int)))) || (decide ((60 : Int) < (L.length : Int)))) = false → True) ∧ ((((decide ((60 : Int) < (E.length : Int))) || (decide ((60 : Int) < (V.length : Int)))) || (decide ((60 : Int) < (L.length : Int)))) = false → True) ∧ ((((decide ((60 : Int) < (E.length : Int))) || (decide ((60 : Int) < (V.length : Int)))) || (decide ((60 : Int) < (L.length : Int)))) = false → (decide ((60 : Int) < n)) = true → 0 < Try.prog.cellsOf 3) ∧ ((((decide ((60 : Int) < (E.length : Int))) || (decide ((60 : Int) < (V.length : Int)))) || (decide ((60 : Int) < (L.length : Int)))) = false → (decide ((60 : Int) < n)) = true → CellOk (On w6) b2 (0 + 0) (.int .i64 n)) ∧ ((((decide ((60 : Int) < (E.length : Int))) || (decide ((60 : Int) < (V.length : Int)))) || (decide ((60 : Int) < (L.length : Int)))) = false → (decide ((60 : Int) < n)) = true → True) ∧ ((((decide ((60 : Int) < (E.length : Int))) || (decide ((60 : Int) < (V.length : Int)))) || (decide ((60 : Int) < (L.length : Int)))) = false → True) ∧ (True) ∧ True) hA H ⟨by decide +kernel, by exact box_cell H 1 rfl 1, by exact len_ok (H.arg hE), trivial, trivial, fun _ => by decide +kernel, fun _ => by exact box_cell H 0 rfl 0, fun _ => by exact len_ok (H.arg hV), fun _ => trivial, trivial, trivial, fun _ => by decide +kernel, fun _ => by exact box_cell H 0 rfl 1, fun _ => by exact len_ok (H.arg hL), fun _ => trivial, trivial, trivial, fun _ => by decide +kernel, fun _ => by exact box_cell H 1 rfl 0, fun _ => trivial, fun _ => trivial, fun _ _ => by decide +kernel, fun _ _ => by exact box_cell H 1 rfl 0, fun _ _ => trivial, fun _ => trivial, trivial, trivial⟩ fun a w9 hA H _ => ?_
  refine hK8 _ _ ?_
  refine go_cond hA (.tmp 30) ((((decide ((60 : Int) < (E.length : Int))) || (decide ((60 : Int) < (V.length : Int)))) || (decide ((60 : Int) < (L.length : Int)))) || ((decide ((60 : Int) < n)) && (decide (n ≤ 1024)))) (fun hb10 => ?_) (fun hb10 => ?_)
  · have hhb10 := (oT hb10).imp (fun h => (oT h).imp (fun h => (oT h).imp (fun h => of_decide_eq_true h) (fun h => of_decide_eq_true h)) (fun h => of_decide_eq_true h)) (fun h => (⟨of_decide_eq_true ((aT h).1), of_decide_eq_true ((aT h).2)⟩ : _ ∧ _))
    refine go_seq fun K11 hK11 => ?_
    refine q_reg [] [(4, .int .i64 0)] ((True) ∧ True) hA H ⟨trivial, trivial⟩ fun a w12 hA H _ => ?_
    refine hK11 _ _ ?_
    refine go_ret_ ?_
    refine ret_one 4 (.int .i64 0) hA ?_
    exact ans_i' (by unfold smallI; first | rw [if_pos (by omega)] | rw [if_neg (by omega)]) H.below
  · have hhb10 := (⟨(⟨(⟨of_decide_eq_false ((oF ((oF ((oF hb10).1)).1)).1), of_decide_eq_false ((oF ((oF ((oF hb10).1)).1)).2)⟩ : _ ∧ _), of_decide_eq_false ((oF ((oF hb10).1)).2)⟩ : _ ∧ _), (aF ((oF hb10).2)).imp (fun h => of_decide_eq_false h) (fun h => of_decide_eq_false h)⟩ : _ ∧ _)
    refine go_skip ?_
    refine hK7 _ _ ?_
    refine go_seq fun K13 hK13 => ?_
    refine q_reg [] [(4, .int .i64 1)] ((True) ∧ True) hA H ⟨trivial, trivial⟩ fun a w14 hA H _ => ?_
    refine hK13 _ _ ?_
    refine go_ret_ ?_
    refine ret_one 4 (.int .i64 1) hA ?_
    exact ans_i' (by unfold smallI; first | rw [if_pos (by omega)] | rw [if_neg (by omega)]) H.below

end Go.Proofs.Ytahonnlgkmimlaa
