/-
 Texts joined by program: WalkQ4, WalkQ5, WalkQ6, WalkQ7, WalkQ8, PairJ, WalkQ9, WalkQ10, PairK, WalkQ12, PairL, WalkQ13.
-/
import Derived.Test.YtahonnlgkmimlaaProg
import Derived.Test.YtahonnlgkmimlaaJPairTakes7
set_option linter.unusedSimpArgs false
set_option linter.unusedVariables false
set_option maxRecDepth 100000
set_option maxHeartbeats 8000000
namespace Go.Proofs.Ytahonnlgkmimlaa
open Go.RowKit
theorem rsolid_any (n : Int) (ve : Value) (E : List (Int × Int)) (vv vl : Value) (V L : List Int) (w : World) (hn : -9223372036854775808 ≤ n ∧ n ≤ 9223372036854775807) (hE : Rd (· < w.heap.size) w ve E) (hV : Rd (· < w.heap.size) w vv V) (hL : Rd (· < w.heap.size) w vl L) (hpt : partE n E V L = 0) :
 Calls Try.prog 88 [.agg #[.int .i64 n, ve], .agg #[vv, vl]].toArray w (Ans (.bool (solidB n E V L)) w) := by
 refine enter Try.f88 19 Try.func88 fun a hA => ?_
 replace hA := env_sub [(0, .agg #[.int .i64 n, ve]), (1, .agg #[vv, vl])] hA
 have H := Fr.start (org w)
 refine go_seq fun K1 hK1 => ?_
 refine region_list ?_
 refine list_at 0 ?_; refine q_box 0 2 24 (.tmp 0) (.agg #[.int .i64 n, ve]) [.int .i64 n, ve] [(1, .agg #[vv, vl])] hA H fun b2 a w3 H hA hG hge_b2 => ?_
 clear hge_b2
 refine list_at 1 ?_; refine q_box 1 3 29 (.tmp 1) (.agg #[vv, vl]) [vv, vl] [(2, pv b2)] hA H fun b4 a w5 H hA hG hge_b4 => ?_
 clear hge_b4
 refine q_list 2 1 [] [(2, pv b2), (3, pv b4)] (TT ∧ True) hA H ⟨tv, tv⟩ fun a w6 hA H hG => ?_
 refine list_end ?_
 refine hK1 _ _ ?_
 refine go_seq fun K7 hK7 => ?_
 refine region_list ?_
 refine q_list 0 2 [(6, .agg #[.int .i64 n, ve]), (7, .agg #[vv, vl])] [(3, pv b4), (6, .agg #[.int .i64 n, ve]), (7, .agg #[vv, vl])] (((Try.prog.info? 24).isSome = true ∧ RowOk (On w6) b2 (0) (Try.prog.cellsOf 24) #[.int .i64 n, ve]) ∧ ((Try.prog.info? 29).isSome = true ∧ RowOk (On w6) b4 (0) (Try.prog.cellsOf 29) #[vv, vl]) ∧ True) hA H ⟨⟨by kernel_rfl, by exact box_row H 1 rfl 0 2⟩, ⟨by kernel_rfl, by exact box_row H 0 rfl 0 2⟩, tv⟩ fun a w8 hA H hG => ?_
 refine list_at 2 ?_; refine q_call 2 8 51 #[.tmp 6, .tmp 7] #[24, 29] [.agg #[.int .i64 n, ve], .agg #[vv, vl]] (fun S v_ w' => Rd S w' v_ ((blocksL n E V L))) [(3, pv b4)] hA H (by exact rblocks_any n ve E vv vl V L H.at (by omega) ((H.arg hE)) ((H.arg hV)) ((H.arg hL)) hpt) fun v9 a w10 S hR11 H hA hG => ?_
 replace H := H.ro hR11
 refine q_list 3 1 [] [(3, pv b4), (5, v9)] (TT ∧ True) hA H ⟨tv, tv⟩ fun a w13 hA H hG => ?_
 refine list_end ?_
 refine hK7 _ _ ?_
 refine go_seq fun K14 hK14 => ?_
 obtain ⟨ea15, eb16, hea15c, hea15a, hea15b⟩ := cell_twoC (C := On w13) H.keepsS (H.getS 0 rfl) (0 : Int)
 refine q_draw [(10, iv ((blocksL n E V L).length : Int)), (15, .agg #[ea15, eb16]), (16, .agg #[vv, vl]), (17, .bool (decide ((((blocksL n E V L).getD (0 : Int).toNat ([], [])).1) = V) && decide ((((blocksL n E V L).getD (0 : Int).toNat ([], [])).2) = L)))] [(4, .bool ((decide (((blocksL n E V L).length : Int) = 1)) && (decide ((((blocksL n E V L).getD (0 : Int).toNat ([], [])).1) = V) && decide ((((blocksL n E V L).getD (0 : Int).toNat ([], [])).2) = L))))] (TT ∧ (LenOk v9 ((blocksL n E V L).length : Int)) ∧ TT ∧ TT ∧ ((decide (((blocksL n E V L).length : Int) = 1)) = true → True) ∧ ((decide (((blocksL n E V L).length : Int) = 1)) = true → (Try.prog.info? 29).isSome = true ∧ IdxOk v9 0) ∧ ((decide (((blocksL n E V L).length : Int) = 1)) = true → (Try.prog.info? 29).isSome = true ∧ RowOk (On w13) (hdB v9) (hdO v9 + (0 : Int).toNat * 2) (Try.prog.cellsOf 29) #[ea15, eb16]) ∧ ((decide (((blocksL n E V L).length : Int) = 1)) = true → (Try.prog.info? 29).isSome = true ∧ RowOk (On w13) b4 (0) (Try.prog.cellsOf 29) #[vv, vl]) ∧ ((decide (((blocksL n E V L).length : Int) = 1)) = true → Callable Try.prog 29 ∧ CallOk Try.prog (On w13) 29 [.agg #[ea15, eb16], .agg #[vv, vl]].toArray (.bool (decide ((((blocksL n E V L).getD (0 : Int).toNat ([], [])).1) = V) && decide ((((blocksL n E V L).getD (0 : Int).toNat ([], [])).2) = L)))) ∧ TT ∧ TT ∧ True) hA H ⟨tv, by exact len_ok (H.get 0 rfl), tv, tv, fun _ => tv, fun hg0 => by replace hg0 := of_decide_eq_true hg0; exact ⟨by kernel_rfl, by exact idx_ok (H.get 0 rfl) (by omega) (by omega)⟩, fun hg0 => by replace hg0 := of_decide_eq_true hg0; exact ⟨by kernel_rfl, by exact hea15c (by omega) (by omega)⟩, fun _ => ⟨by kernel_rfl, by exact box_row H 1 rfl 0 2⟩, fun hg0 => by replace hg0 := of_decide_eq_true hg0; exact ⟨callable_of, callOk_of fun w hw => by exact rsame_any ea15 eb16 vv vl (((blocksL n E V L).getD (0 : Int).toNat ([], [])).1) (((blocksL n E V L).getD (0 : Int).toNat ([], [])).2) V L w ((rd_on (Rd.up H.inb (hea15a (by omega) (by omega))) hw)) ((rd_on (Rd.up H.inb (hea15b (by omega) (by omega))) hw)) (((H.on hw).arg hV)) (((H.on hw).arg hL))⟩, tv, tv, tv⟩ fun a w17 hA H hG => ?_
 refine hK14 _ _ ?_
 refine go_ret_ ?_
 refine ret_one 4 (.bool ((decide (((blocksL n E V L).length : Int) = 1)) && (decide ((((blocksL n E V L).getD (0 : Int).toNat ([], [])).1) = V) && decide ((((blocksL n E V L).getD (0 : Int).toNat ([], [])).2) = L)))) hA ?_
 exact ans_b' (solid_ref hpt) H.below
theorem rright14_any (vl : Value) (l : List (Int × Int × Int)) (w : World) (hL : Rd (· < w.heap.size) w vl l) (hs : l.length ≤ 100000) :
 Calls Try.prog 60 [vl].toArray w (Ans (.bool (rightK l)) w) := by
 refine enter Try.f60 131 Try.func60 fun a hA => ?_
 replace hA := env_sub [(0, vl)] hA
 have H := Fr.start (org w)
 refine go_seq fun K1 hK1 => ?_
 refine q_reg [] [(0, vl)] (TT ∧ True) hA H ⟨tv, tv⟩ fun a w2 hA H hG => ?_
 refine hK1 _ _ ?_
 refine go_seq fun K3 hK3 => ?_
 refine go_seq fun K4 hK4 => ?_
 refine q_reg [(9, iv (l.length : Int))] [(0, vl), (10, .bool (decide ((1024 : Int) < (l.length : Int))))] (TT ∧ (LenOk vl (l.length : Int)) ∧ TT ∧ True) hA H ⟨tv, by exact len_ok (H.arg hL), tv, tv⟩ fun a w5 hA H hG => ?_
 refine hK4 _ _ ?_
 refine go_cond hA (.tmp 10) (decide ((1024 : Int) < (l.length : Int))) (fun hb6 => ?_) (fun hb6 => ?_)
 · have hhb6 := of_decide_eq_true hb6
   refine go_seq fun K7 hK7 => ?_
   refine q_reg [] [(2, .bool false)] (TT ∧ True) hA H ⟨tv, tv⟩ fun a w8 hA H hG => ?_
   refine hK7 _ _ ?_
   refine go_ret_ ?_
   refine ret_one 2 (.bool false) hA ?_
   exact ans_b' (Eq.symm (by first | exact rk_big (by omega) | exact rk_not (by omega) (okLk_twice k0 (by omega) hhb6) | exact rk_not (i := i.toNat) (by omega) (okLk_no hhb6) | exact rk_err (by rw [← hn, ← he]; exact hhb6))) H.below
 have hhb6 := of_decide_eq_false hb6
 refine go_skip ?_
 refine hK3 _ _ ?_
 refine go_seq fun K9 hK9 => ?_
 refine region_list ?_
 refine list_at 0 ?_; refine q_alloc 0 3 24 [.int .i64 0, (.slice none 0 0)] [(0, vl)] hA H fun b10 a w11 H hA hG hge_b10 => ?_
 clear hge_b10
 replace H := H.newRow (α := Int × Int) 99
 refine list_end ?_
 refine hK9 _ _ ?_
 refine go_seq fun K12 hK12 => ?_
 refine go_seq fun K13 hK13 => ?_
 refine q_reg [] [(0, vl), (3, pv b10), (4, iv 0)] (TT ∧ True) hA H ⟨tv, tv⟩ fun a w14 hA H hG => ?_
 refine hK13 _ _ ?_
 refine go_block 0 ?_
 refine go_loop_ (Int × Int × Value × List (Int × Int)) (fun x_ a W => (fun (i : Int) (n : Int) (ve : Value) (e : List (Int × Int)) => EnvOk 131 a (keepEnv [(0, vl), (3, pv b10), (4, iv i)]) ∧ (∃ S, Fr (org w) W S [.row 99 ve e, .box b10 24 [.int .i64 n, ve]]) ∧ 0 ≤ i ∧ i ≤ (l.length : Int) ∧ (e.length : Int) ≤ i ∧ (∀ j : Nat, (j : Int) < i → okLk l j) ∧ n = nK (l.take i.toNat) ∧ e = eK (l.take i.toNat)) x_.1 x_.2.1 x_.2.2.1 x_.2.2.2) (fun x_ => (fun (i : Int) (n : Int) (ve : Value) (e : List (Int × Int)) => ((l.length : Int) - i).toNat) x_.1 x_.2.1 x_.2.2.1 x_.2.2.2) (0, 0, .slice none 0 0, []) ?_ (fun x_ a w16 hI => ?_)
 · (try dsimp only); exact ⟨env_sub _ hA, ⟨_, H⟩, by omega, by omega, by simp, fun j hj => by omega, by simp [nK], by simp [eK]⟩
 obtain ⟨i, n, ve, e⟩ := x_
 obtain ⟨hA, ⟨S, H⟩, h0, h0b, he1, hok, hn, he⟩ := hI
 try dsimp only at h0 h0b he1 hok hn he
 replace H : Fr _ _ _ [.row 99 ve e, .box b10 24 [.int .i64 n, ve]] := H
 have hn9 : 0 ≤ n ∧ n ≤ 1024 := by rw [hn]; exact nK_bd2 (by omega) hok
 refine go_seq fun K17 hK17 => ?_
 refine go_seq fun K18 hK18 => ?_
 refine q_reg [(13, iv (l.length : Int))] [(0, vl), (3, pv b10), (4, iv i), (14, .bool (decide (i < (l.length : Int))))] (TT ∧ TT ∧ (LenOk vl (l.length : Int)) ∧ TT ∧ True) hA H ⟨tv, tv, by exact len_ok (H.arg hL), tv, tv⟩ fun a w19 hA H hG => ?_
 refine hK18 _ _ ?_
 refine go_cond hA (.tmp 14) (decide (i < (l.length : Int))) (fun hb20 => ?_) (fun hb20 => ?_)
 · have hhb20 := of_decide_eq_true hb20
   refine go_skip ?_
   refine hK17 _ _ ?_
   refine go_seq fun K21 hK21 => ?_
   refine go_block 1 ?_
   refine go_seq fun K22 hK22 => ?_
   refine go_seq fun K23 hK23 => ?_
   refine q_draw [(21, iv ((l.getD i.toNat (0, (0, 0))).1)), (28, iv (((l.getD i.toNat (0, (0, 0))).2).1)), (36, iv ((l.getD i.toNat (0, (0, 0))).1)), (44, iv (((l.getD i.toNat (0, (0, 0))).2).1)), (52, iv ((l.getD i.toNat (0, (0, 0))).1)), (57, iv (((l.getD i.toNat (0, (0, 0))).2).1))] [(0, vl), (3, pv b10), (4, iv i), (59, .bool (((((decide ((l.getD i.toNat (0, (0, 0))).1 < 0)) || (decide (((l.getD i.toNat (0, (0, 0))).2).1 < 0))) || (decide ((1024 : Int) ≤ (l.getD i.toNat (0, (0, 0))).1))) || (decide ((1024 : Int) ≤ ((l.getD i.toNat (0, (0, 0))).2).1))) || (decide ((l.getD i.toNat (0, (0, 0))).1 = ((l.getD i.toNat (0, (0, 0))).2).1))))] (TT ∧ TT ∧ ((Try.prog.info? 113).isSome = true ∧ IdxOk vl i) ∧ (0 < Try.prog.cellsOf 3) ∧ (CellOk (On w19) (hdB vl) (hdO vl + i.toNat * 3 + 0) (.int .i64 ((l.getD i.toNat (0, (0, 0))).1))) ∧ TT ∧ TT ∧ ((decide ((l.getD i.toNat (0, (0, 0))).1 < 0)) = false → True) ∧ ((decide ((l.getD i.toNat (0, (0, 0))).1 < 0)) = false → True) ∧ ((decide ((l.getD i.toNat (0, (0, 0))).1 < 0)) = false → (Try.prog.info? 113).isSome = true ∧ IdxOk vl i) ∧ ((decide ((l.getD i.toNat (0, (0, 0))).1 < 0)) = false → 0 < Try.prog.cellsOf 3) ∧ ((decide ((l.getD i.toNat (0, (0, 0))).1 < 0)) = false → CellOk (On w19) (hdB vl) (hdO vl + i.toNat * 3 + 1) (.int .i64 (((l.getD i.toNat (0, (0, 0))).2).1))) ∧ ((decide ((l.getD i.toNat (0, (0, 0))).1 < 0)) = false → True) ∧ TT ∧ TT ∧ (((decide ((l.getD i.toNat (0, (0, 0))).1 < 0)) || (decide (((l.getD i.toNat (0, (0, 0))).2).1 < 0))) = false → True) ∧ (((decide ((l.getD i.toNat (0, (0, 0))).1 < 0)) || (decide (((l.getD i.toNat (0, (0, 0))).2).1 < 0))) = false → True) ∧ (((decide ((l.getD i.toNat (0, (0, 0))).1 < 0)) || (decide (((l.getD i.toNat (0, (0, 0))).2).1 < 0))) = false → (Try.prog.info? 113).isSome = true ∧ IdxOk vl i) ∧ (((decide ((l.getD i.toNat (0, (0, 0))).1 < 0)) || (decide (((l.getD i.toNat (0, (0, 0))).2).1 < 0))) = false → 0 < Try.prog.cellsOf 3) ∧ (((decide ((l.getD i.toNat (0, (0, 0))).1 < 0)) || (decide (((l.getD i.toNat (0, (0, 0))).2).1 < 0))) = false → CellOk (On w19) (hdB vl) (hdO vl + i.toNat * 3 + 0) (.int .i64 ((l.getD i.toNat (0, (0, 0))).1))) ∧ (((decide ((l.getD i.toNat (0, (0, 0))).1 < 0)) || (decide (((l.getD i.toNat (0, (0, 0))).2).1 < 0))) = false → True) ∧ TT ∧ TT ∧ ((((decide ((l.getD i.toNat (0, (0, 0))).1 < 0)) || (decide (((l.getD i.toNat (0, (0, 0))).2).1 < 0))) || (decide ((1024 : Int) ≤ (l.getD i.toNat (0, (0, 0))).1))) = false → True) ∧ ((((decide ((l.getD i.toNat (0, (0, 0))).1 < 0)) || (decide (((l.getD i.toNat (0, (0, 0))).2).1 < 0))) || (decide ((1024 : Int) ≤ (l.getD i.toNat (0, (0, 0))).1))) = false → True) ∧ ((((decide ((l.getD i.toNat (0, (0, 0))).1 < 0)) || (decide (((l.getD i.toNat (0, (0, 0))).2).1 < 0))) || (decide ((1024 : Int) ≤ (l.getD i.toNat (0, (0, 0))).1))) = false → (Try.prog.info? 113).isSome = true ∧ IdxOk vl i) ∧ ((((decide ((l.getD i.toNat (0, (0, 0))).1 < 0)) || (decide (((l.getD i.toNat (0, (0, 0))).2).1 < 0))) || (decide ((1024 : Int) ≤ (l.getD i.toNat (0, (0, 0))).1))) = false → 0 < Try.prog.cellsOf 3) ∧ ((((decide ((l.getD i.toNat (0, (0, 0))).1 < 0)) || (decide (((l.getD i.toNat (0, (0, 0))).2).1 < 0))) || (decide ((1024 : Int) ≤ (l.getD i.toNat (0, (0, 0))).1))) = false → CellOk (On w19) (hdB vl) (hdO vl + i.toNat * 3 + 1) (.int .i64 (((l.getD i.toNat (0, (0, 0))).2).1))) ∧ ((((decide ((l.getD i.toNat (0, (0, 0))).1 < 0)) || (decide (((l.getD i.toNat (0, (0, 0))).2).1 < 0))) || (decide ((1024 : Int) ≤ (l.getD i.toNat (0, (0, 0))).1))) = false → True) ∧ TT ∧ TT ∧ (((((decide ((l.getD i.toNat (0, (0, 0))).1 < 0)) || (decide (((l.getD i.toNat (0, (0, 0))).2).1 < 0))) || (decide ((1024 : Int) ≤ (l.getD i.toNat (0, (0, 0))).1))) || (decide ((1024 : Int) ≤ ((l.getD i.toNat (0, (0, 0))).2).1))) = false → True) ∧ (((((decide ((l.getD i.toNat (0, (0, 0))).1 < 0)) || (decide (((l.getD i.toNat (0, (0, 0))).2).1 < 0))) || (decide ((1024 : Int) ≤ (l.getD i.toNat (0, (0, 0))).1))) || (decide ((1024 : Int) ≤ ((l.getD i.toNat (0, (0, 0))).2).1))) = false → True) ∧ (((((decide ((l.getD i.toNat (0, (0, 0))).1 < 0)) || (decide (((l.getD i.toNat (0, (0, 0))).2).1 < 0))) || (decide ((1024 : Int) ≤ (l.getD i.toNat (0, (0, 0))).1))) || (decide ((1024 : Int) ≤ ((l.getD i.toNat (0, (0, 0))).2).1))) = false → (Try.prog.info? 113).isSome = true ∧ IdxOk vl i) ∧ (((((decide ((l.getD i.toNat (0, (0, 0))).1 < 0)) || (decide (((l.getD i.toNat (0, (0, 0))).2).1 < 0))) || (decide ((1024 : Int) ≤ (l.getD i.toNat (0, (0, 0))).1))) || (decide ((1024 : Int) ≤ ((l.getD i.toNat (0, (0, 0))).2).1))) = false → 0 < Try.prog.cellsOf 3) ∧ (((((decide ((l.getD i.toNat (0, (0, 0))).1 < 0)) || (decide (((l.getD i.toNat (0, (0, 0))).2).1 < 0))) || (decide ((1024 : Int) ≤ (l.getD i.toNat (0, (0, 0))).1))) || (decide ((1024 : Int) ≤ ((l.getD i.toNat (0, (0, 0))).2).1))) = false → CellOk (On w19) (hdB vl) (hdO vl + i.toNat * 3 + 0) (.int .i64 ((l.getD i.toNat (0, (0, 0))).1))) ∧ (((((decide ((l.getD i.toNat (0, (0, 0))).1 < 0)) || (decide (((l.getD i.toNat (0, (0, 0))).2).1 < 0))) || (decide ((1024 : Int) ≤ (l.getD i.toNat (0, (0, 0))).1))) || (decide ((1024 : Int) ≤ ((l.getD i.toNat (0, (0, 0))).2).1))) = false → True) ∧ (((((decide ((l.getD i.toNat (0, (0, 0))).1 < 0)) || (decide (((l.getD i.toNat (0, (0, 0))).2).1 < 0))) || (decide ((1024 : Int) ≤ (l.getD i.toNat (0, (0, 0))).1))) || (decide ((1024 : Int) ≤ ((l.getD i.toNat (0, (0, 0))).2).1))) = false → True) ∧ (((((decide ((l.getD i.toNat (0, (0, 0))).1 < 0)) || (decide (((l.getD i.toNat (0, (0, 0))).2).1 < 0))) || (decide ((1024 : Int) ≤ (l.getD i.toNat (0, (0, 0))).1))) || (decide ((1024 : Int) ≤ ((l.getD i.toNat (0, (0, 0))).2).1))) = false → (Try.prog.info? 113).isSome = true ∧ IdxOk vl i) ∧ (((((decide ((l.getD i.toNat (0, (0, 0))).1 < 0)) || (decide (((l.getD i.toNat (0, (0, 0))).2).1 < 0))) || (decide ((1024 : Int) ≤ (l.getD i.toNat (0, (0, 0))).1))) || (decide ((1024 : Int) ≤ ((l.getD i.toNat (0, (0, 0))).2).1))) = false → 0 < Try.prog.cellsOf 3) ∧ (((((decide ((l.getD i.toNat (0, (0, 0))).1 < 0)) || (decide (((l.getD i.toNat (0, (0, 0))).2).1 < 0))) || (decide ((1024 : Int) ≤ (l.getD i.toNat (0, (0, 0))).1))) || (decide ((1024 : Int) ≤ ((l.getD i.toNat (0, (0, 0))).2).1))) = false → CellOk (On w19) (hdB vl) (hdO vl + i.toNat * 3 + 1) (.int .i64 (((l.getD i.toNat (0, (0, 0))).2).1))) ∧ (((((decide ((l.getD i.toNat (0, (0, 0))).1 < 0)) || (decide (((l.getD i.toNat (0, (0, 0))).2).1 < 0))) || (decide ((1024 : Int) ≤ (l.getD i.toNat (0, (0, 0))).1))) || (decide ((1024 : Int) ≤ ((l.getD i.toNat (0, (0, 0))).2).1))) = false → True) ∧ TT ∧ True) hA H ⟨tv, tv, ⟨by kernel_rfl, by exact idx_ok (H.arg hL) (by omega) (by omega)⟩, by decide +kernel, by exact cell_flat (i := i) (H.arg hL) (by omega) (by omega) (0, (0, 0)) 0, tv, tv, fun _ => tv, fun _ => tv, fun hg0 => by replace hg0 := of_decide_eq_false hg0; exact ⟨by kernel_rfl, by exact idx_ok (H.arg hL) (by omega) (by omega)⟩, fun _ => by decide +kernel, fun hg0 => by replace hg0 := of_decide_eq_false hg0; exact by exact cell_flat (i := i) (H.arg hL) (by omega) (by omega) (0, (0, 0)) 1, fun _ => tv, tv, tv, fun _ => tv, fun _ => tv, fun hg0 => by replace hg0 := (⟨of_decide_eq_false ((oF hg0).1), of_decide_eq_false ((oF hg0).2)⟩ : _ ∧ _); exact ⟨by kernel_rfl, by exact idx_ok (H.arg hL) (by omega) (by omega)⟩, fun _ => by decide +kernel, fun hg0 => by replace hg0 := (⟨of_decide_eq_false ((oF hg0).1), of_decide_eq_false ((oF hg0).2)⟩ : _ ∧ _); exact by exact cell_flat (i := i) (H.arg hL) (by omega) (by omega) (0, (0, 0)) 0, fun _ => tv, tv, tv, fun _ => tv, fun _ => tv, fun hg0 => by replace hg0 := (⟨(⟨of_decide_eq_false ((oF ((oF hg0).1)).1), of_decide_eq_false ((oF ((oF hg0).1)).2)⟩ : _ ∧ _), of_decide_eq_false ((oF hg0).2)⟩ : _ ∧ _); exact ⟨by kernel_rfl, by exact idx_ok (H.arg hL) (by omega) (by omega)⟩, fun _ => by decide +kernel, fun hg0 => by replace hg0 := (⟨(⟨of_decide_eq_false ((oF ((oF hg0).1)).1), of_decide_eq_false ((oF ((oF hg0).1)).2)⟩ : _ ∧ _), of_decide_eq_false ((oF hg0).2)⟩ : _ ∧ _); exact by exact cell_flat (i := i) (H.arg hL) (by omega) (by omega) (0, (0, 0)) 1, fun _ => tv, tv, tv, fun _ => tv, fun _ => tv, fun hg0 => by replace hg0 := (⟨(⟨(⟨of_decide_eq_false ((oF ((oF ((oF hg0).1)).1)).1), of_decide_eq_false ((oF ((oF ((oF hg0).1)).1)).2)⟩ : _ ∧ _), of_decide_eq_false ((oF ((oF hg0).1)).2)⟩ : _ ∧ _), of_decide_eq_false ((oF hg0).2)⟩ : _ ∧ _); exact ⟨by kernel_rfl, by exact idx_ok (H.arg hL) (by omega) (by omega)⟩, fun _ => by decide +kernel, fun hg0 => by replace hg0 := (⟨(⟨(⟨of_decide_eq_false ((oF ((oF ((oF hg0).1)).1)).1), of_decide_eq_false ((oF ((oF ((oF hg0).1)).1)).2)⟩ : _ ∧ _), of_decide_eq_false ((oF ((oF hg0).1)).2)⟩ : _ ∧ _), of_decide_eq_false ((oF hg0).2)⟩ : _ ∧ _); exact by exact cell_flat (i := i) (H.arg hL) (by omega) (by omega) (0, (0, 0)) 0, fun _ => tv, fun _ => tv, fun hg0 => by replace hg0 := (⟨(⟨(⟨of_decide_eq_false ((oF ((oF ((oF hg0).1)).1)).1), of_decide_eq_false ((oF ((oF ((oF hg0).1)).1)).2)⟩ : _ ∧ _), of_decide_eq_false ((oF ((oF hg0).1)).2)⟩ : _ ∧ _), of_decide_eq_false ((oF hg0).2)⟩ : _ ∧ _); exact ⟨by kernel_rfl, by exact idx_ok (H.arg hL) (by omega) (by omega)⟩, fun _ => by decide +kernel, fun hg0 => by replace hg0 := (⟨(⟨(⟨of_decide_eq_false ((oF ((oF ((oF hg0).1)).1)).1), of_decide_eq_false ((oF ((oF ((oF hg0).1)).1)).2)⟩ : _ ∧ _), of_decide_eq_false ((oF ((oF hg0).1)).2)⟩ : _ ∧ _), of_decide_eq_false ((oF hg0).2)⟩ : _ ∧ _); exact by exact cell_flat (i := i) (H.arg hL) (by omega) (by omega) (0, (0, 0)) 1, fun _ => tv, tv, tv⟩ fun a w24 hA H hG => ?_
   refine hK23 _ _ ?_
   refine go_cond hA (.tmp 59) (((((decide ((l.getD i.toNat (0, (0, 0))).1 < 0)) || (decide (((l.getD i.toNat (0, (0, 0))).2).1 < 0))) || (decide ((1024 : Int) ≤ (l.getD i.toNat (0, (0, 0))).1))) || (decide ((1024 : Int) ≤ ((l.getD i.toNat (0, (0, 0))).2).1))) || (decide ((l.getD i.toNat (0, (0, 0))).1 = ((l.getD i.toNat (0, (0, 0))).2).1))) (fun hb25 => ?_) (fun hb25 => ?_)
   · have hhb25 := (oT hb25).imp (fun h => (oT h).imp (fun h => (oT h).imp (fun h => (oT h).imp (fun h => of_decide_eq_true h) (fun h => of_decide_eq_true h)) (fun h => of_decide_eq_true h)) (fun h => of_decide_eq_true h)) (fun h => of_decide_eq_true h)
     refine go_seq fun K26 hK26 => ?_
     refine q_reg [] [(2, .bool false)] (TT ∧ True) hA H ⟨tv, tv⟩ fun a w27 hA H hG => ?_
     refine hK26 _ _ ?_
     refine go_ret_ ?_
     refine ret_one 2 (.bool false) hA ?_
     exact ans_b' (Eq.symm (by first | exact rk_big (by omega) | exact rk_not (by omega) (okLk_twice k0 (by omega) hhb25) | exact rk_not (i := i.toNat) (by omega) (okLk_no hhb25) | exact rk_err (by rw [← hn, ← he]; exact hhb25))) H.below
   have hhb25 := (⟨(⟨(⟨(⟨of_decide_eq_false ((oF ((oF ((oF ((oF hb25).1)).1)).1)).1), of_decide_eq_false ((oF ((oF ((oF ((oF hb25).1)).1)).1)).2)⟩ : _ ∧ _), of_decide_eq_false ((oF ((oF ((oF hb25).1)).1)).2)⟩ : _ ∧ _), of_decide_eq_false ((oF ((oF hb25).1)).2)⟩ : _ ∧ _), of_decide_eq_false ((oF hb25).2)⟩ : _ ∧ _)
   refine go_skip ?_
   refine hK22 _ _ ?_
   refine go_seq fun K28 hK28 => ?_
   refine go_seq fun K29 hK29 => ?_
   refine q_reg [] [(0, vl), (3, pv b10), (4, iv i), (5, iv 0)] (TT ∧ True) hA H ⟨tv, tv⟩ fun a w30 hA H hG => ?_
   refine hK29 _ _ ?_
   refine go_block 2 ?_
   have hno := hhb25
   refine go_loop_ (Int) (fun x_ a W => (fun (k : Int) => EnvOk 131 a (keepEnv [(0, vl), (3, pv b10), (4, iv i), (5, iv k)]) ∧ (∃ S, Fr (org w) W S [.row 99 ve e, .box b10 24 [.int .i64 n, ve]]) ∧ 0 ≤ k ∧ k ≤ i ∧ ∀ q : Nat, (q : Int) < k → lkI l (q : Int) ≠ lkI l i) x_) (fun x_ => (fun (k : Int) => (i - k).toNat) x_) (0) ?_ (fun k a w32 hI => ?_)
   · (try dsimp only); exact ⟨env_sub _ hA, ⟨_, H⟩, by omega, by omega, fun q hq => by omega⟩
   obtain ⟨hA, ⟨S, H⟩, k0, k0b, hk⟩ := hI
   try dsimp only at k0 k0b hk
   refine go_seq fun K33 hK33 => ?_
   refine go_seq fun K34 hK34 => ?_
   refine q_reg [] [(0, vl), (3, pv b10), (4, iv i), (5, iv k), (62, .bool (decide (k < i)))] (TT ∧ TT ∧ TT ∧ True) hA H ⟨tv, tv, tv, tv⟩ fun a w35 hA H hG => ?_
   refine hK34 _ _ ?_
   refine go_cond hA (.tmp 62) (decide (k < i)) (fun hb36 => ?_) (fun hb36 => ?_)
   · have hhb36 := of_decide_eq_true hb36
     refine go_skip ?_
     refine hK33 _ _ ?_
     refine go_seq fun K37 hK37 => ?_
     refine go_block 3 ?_
     refine go_seq fun K38 hK38 => ?_
     refine q_draw [(69, iv (((l.getD k.toNat (0, (0, 0))).2).2)), (74, iv (((l.getD i.toNat (0, (0, 0))).2).2))] [(0, vl), (3, pv b10), (4, iv i), (5, iv k), (75, .bool (decide (((l.getD k.toNat (0, (0, 0))).2).2 = ((l.getD i.toNat (0, (0, 0))).2).2)))] (TT ∧ TT ∧ ((Try.prog.info? 113).isSome = true ∧ IdxOk vl k) ∧ (0 < Try.prog.cellsOf 3) ∧ (CellOk (On w35) (hdB vl) (hdO vl + k.toNat * 3 + 2) (.int .i64 (((l.getD k.toNat (0, (0, 0))).2).2))) ∧ TT ∧ TT ∧ ((Try.prog.info? 113).isSome = true ∧ IdxOk vl i) ∧ (0 < Try.prog.cellsOf 3) ∧ (CellOk (On w35) (hdB vl) (hdO vl + i.toNat * 3 + 2) (.int .i64 (((l.getD i.toNat (0, (0, 0))).2).2))) ∧ TT ∧ True) hA H ⟨tv, tv, ⟨by kernel_rfl, by exact idx_ok (H.arg hL) (by omega) (by omega)⟩, by decide +kernel, by exact cell_flat (i := k) (H.arg hL) (by omega) (by omega) (0, (0, 0)) 2, tv, tv, ⟨by kernel_rfl, by exact idx_ok (H.arg hL) (by omega) (by omega)⟩, by decide +kernel, by exact cell_flat (i := i) (H.arg hL) (by omega) (by omega) (0, (0, 0)) 2, tv, tv⟩ fun a w39 hA H hG => ?_
     refine hK38 _ _ ?_
     refine go_cond hA (.tmp 75) (decide (((l.getD k.toNat (0, (0, 0))).2).2 = ((l.getD i.toNat (0, (0, 0))).2).2)) (fun hb40 => ?_) (fun hb40 => ?_)
     · have hhb40 := of_decide_eq_true hb40
       refine go_seq fun K41 hK41 => ?_
       refine q_reg [] [(2, .bool false)] (TT ∧ True) hA H ⟨tv, tv⟩ fun a w42 hA H hG => ?_
       refine hK41 _ _ ?_
       refine go_ret_ ?_
       refine ret_one 2 (.bool false) hA ?_
       exact ans_b' (Eq.symm (by first | exact rk_big (by omega) | exact rk_not (by omega) (okLk_twice k0 (by omega) hhb40) | exact rk_not (i := i.toNat) (by omega) (okLk_no hhb40) | exact rk_err (by rw [← hn, ← he]; exact hhb40))) H.below
     have hhb40 := of_decide_eq_false hb40
     refine go_skip ?_
     refine hK37 _ _ ?_
     refine q_reg [] [(0, vl), (3, pv b10), (4, iv i), (5, iv (k + 1))] (TT ∧ (InR .i64 (k + 1)) ∧ TT ∧ True) hA H ⟨tv, ⟨by omega, by omega⟩, tv, tv⟩ fun a w43 hA H hG => ?_
     refine ⟨(k + 1), ⟨env_sub _ hA, ⟨_, H⟩, ?_⟩, ?_⟩
     · (try dsimp only); exact ⟨by omega, by omega, fun q hq => if z : (q : Int) = k then (by rw [z]; exact hhb40) else hk q (by omega)⟩
     (try dsimp only); omega
   have hhb36 := of_decide_eq_false hb36
   refine go_exit 2 ?_
   refine hK28 _ _ ?_
   refine go_seq fun K44 hK44 => ?_
   have hlk : okLk l i.toNat := okLk_mk h0 (fun q hq => hk q (by omega)) hno.1.1.1.1 hno.1.1.1.2 hno.1.1.2 hno.1.2 hno.2
   have hl9 := hlk.2
   have H0 := H
   have hM0 := H0.keeps ve.ownBlock (.inr ⟨_, List.mem_of_getElem? (i := 0) rfl, rfl⟩)
   refine region_mix (But w35 ve.ownBlock) [0, 1, 2, 3, 4, 5, 6, 7, 8, 9, 10, 11, 12, 13, 14] 17 ?_
   replace H := H.drawn; have hD := But.drew w35 ve.ownBlock
   generalize ({ w35 with drawn := w35.drawn + 1 } : World) = w45 at H hD ⊢
   refine m_take (n := 4) [0, 1, 2, 3, 4, 5, 6, 7, 8, 9, 10, 11, 12] #[true, true, true, true, true, true, true, true, true, true, true, true, true, false, false, false, false] [(77, ve), (82, iv ((l.getD i.toNat (0, (0, 0))).1)), (87, iv (((l.getD i.toNat (0, (0, 0))).2).1)), (88, .agg #[.int .i64 ((l.getD i.toNat (0, (0, 0))).1), .int .i64 (((l.getD i.toNat (0, (0, 0))).2).1)])] [(0, vl), (3, pv b10), (4, iv i), (77, ve), (88, .agg #[.int .i64 ((l.getD i.toNat (0, (0, 0))).1), .int .i64 (((l.getD i.toNat (0, (0, 0))).2).1)])] ((0 < Try.prog.cellsOf 22) ∧ (CellOk (But w35 ve.ownBlock) b10 (0 + 1) (ve)) ∧ TT ∧ TT ∧ ((Try.prog.info? 113).isSome = true ∧ IdxOk vl i) ∧ (0 < Try.prog.cellsOf 3) ∧ (CellOk (But w35 ve.ownBlock) (hdB vl) (hdO vl + i.toNat * 3 + 0) (.int .i64 ((l.getD i.toNat (0, (0, 0))).1))) ∧ TT ∧ TT ∧ ((Try.prog.info? 113).isSome = true ∧ IdxOk vl i) ∧ (0 < Try.prog.cellsOf 3) ∧ (CellOk (But w35 ve.ownBlock) (hdB vl) (hdO vl + i.toNat * 3 + 1) (.int .i64 (((l.getD i.toNat (0, (0, 0))).2).1))) ∧ (∀ w, (Instr.build 99 #[(0, iv ((l.getD i.toNat (0, (0, 0))).1)), (1, iv (((l.getD i.toNat (0, (0, 0))).2).1))]).run Try.prog w = .ok (.agg #[.int .i64 ((l.getD i.toNat (0, (0, 0))).1), .int .i64 (((l.getD i.toNat (0, (0, 0))).2).1)]) w) ∧ True) hA hD ⟨by decide +kernel, by exact box_cellC (box_atC H0 ve.ownBlock 1 rfl (H0.apart 1 0 (by decide) rfl rfl rfl)) 1, tv, tv, ⟨by kernel_rfl, by exact idx_ok (H0.argT hL) (by omega) (by omega)⟩, by decide +kernel, by exact cell_flatC hM0 (i := i) (H0.argT hL) (by omega) (by omega) (0, (0, 0)) 0, tv, tv, ⟨by kernel_rfl, by exact idx_ok (H0.argT hL) (by omega) (by omega)⟩, by decide +kernel, by exact cell_flatC hM0 (i := i) (H0.argT hL) (by omega) (by omega) (0, (0, 0)) 1, fun w => by kernel_rfl, tv⟩ fun a hA => ?_
   refine m_one 13 ?_; refine q_lit 13 89 22 1 #[(0, .tmp 88)] 99 [(0, .agg #[.int .i64 ((l.getD i.toNat (0, (0, 0))).1), .int .i64 (((l.getD i.toNat (0, (0, 0))).2).1)])] [.int .i64 ((l.getD i.toNat (0, (0, 0))).1), .int .i64 (((l.getD i.toNat (0, (0, 0))).2).1)] [(0, vl), (3, pv b10), (4, iv i), (77, ve)] hA H fun b46 a w47 H hA hG hge_b46 => ?_
   replace hge_b46 := Nat.le_trans hD.1 hge_b46
   replace hD := hD.below hG
   refine ⟨fun _ => hD, ?_⟩
   refine m_one 14 ?_; refine q_push 14 90 (.tmp 77) (.tmp 89) 1 0 b46 1 1 ve e [((l.getD i.toNat (0, (0, 0))).1, ((l.getD i.toNat (0, (0, 0))).2).1)] [.int .i64 ((l.getD i.toNat (0, (0, 0))).1), .int .i64 (((l.getD i.toNat (0, (0, 0))).2).1)] [(0, vl), (3, pv b10), (4, iv i)] hA H Try.E22 rfl rfl (by exact (RowRd.single (α := Int × Int) ⟨[_], _, rfl, rfl, rfl⟩)) rfl (by simp only [List.length_cons, List.length_nil, List.length_append]; omega) (by decide) fun v48 a w49 H hA hG => ?_
   replace H : Fr _ _ _ [.row 99 v48 (e ++ [((l.getD i.toNat (0, (0, 0))).1, ((l.getD i.toNat (0, (0, 0))).2).1)]), .box b10 24 [.int .i64 n, ve]] := H.drop 0
   replace hD := hD.grown hG (fun b hb => .inl hb.symm)
   refine ⟨fun _ => hD, ?_⟩
   refine m_one 15 ?_; refine q_one 15 [] [(0, vl), (3, pv b10), (4, iv i), (90, v48), (91, .pointer (some ⟨b10, 0 + 1, none⟩))] ((0 < Try.prog.cellsOf 22) ∧ True) hA H ⟨by decide +kernel, tv⟩ fun a w50 H hA hG => ?_
   refine ⟨fun h => absurd h (by decide), ?_⟩
   refine m_one 16 ?_; refine q_store 16 22 (.tmp 91) (.tmp 90) 1 b10 (0 + 1) 24 [.int .i64 n, ve] [v48] [.int .i64 n, v48] v48 [(0, vl), (3, pv b10), (4, iv i)] hA H rfl (one_cells (rd_one (H.out 0 rfl))) (Nat.le_of_ble_eq_true (by kernel_rfl)) rfl (fun v hv => by simp only [List.mem_cons, List.not_mem_nil, or_false] at hv; rcases hv with rfl; exact (rd_one (H.out 0 rfl))) fun a w51 H hA hG => ?_
   replace H : Fr _ _ _ [.row 99 v48 (e ++ [((l.getD i.toNat (0, (0, 0))).1, ((l.getD i.toNat (0, (0, 0))).2).1)]), .box b10 24 [.int .i64 n, v48]] := H
   refine ⟨fun h => absurd h (by decide), ?_⟩
   refine m_end ?_
   refine hK44 _ _ ?_
   refine go_seq fun K52 hK52 => ?_
   have H0 := H
   have hM0 := H0.keeps none (.inl rfl)
   refine region_mix (But w51 none) [0, 1, 2, 3, 4, 5, 6, 7, 8] 11 ?_
   replace H := H.drawn; have hD := But.drew w51 none
   generalize ({ w51 with drawn := w51.drawn + 1 } : World) = w53 at H hD ⊢
   refine m_take (n := 2) [0, 1, 2, 3, 4, 5, 6, 7, 8] #[true, true, true, true, true, true, true, true, true, false, false] [(93, iv n), (98, iv ((l.getD i.toNat (0, (0, 0))).1)), (100, iv (max n (((l.getD i.toNat (0, (0, 0))).1) + 1)))] [(0, vl), (3, pv b10), (4, iv i), (100, iv (max n (((l.getD i.toNat (0, (0, 0))).1) + 1)))] ((0 < Try.prog.cellsOf 3) ∧ (CellOk (But w51 none) b10 (0 + 0) (.int .i64 n)) ∧ TT ∧ TT ∧ ((Try.prog.info? 113).isSome = true ∧ IdxOk vl i) ∧ (0 < Try.prog.cellsOf 3) ∧ (CellOk (But w51 none) (hdB vl) (hdO vl + i.toNat * 3 + 0) (.int .i64 ((l.getD i.toNat (0, (0, 0))).1))) ∧ (InR .i64 (((l.getD i.toNat (0, (0, 0))).1) + 1)) ∧ (∀ ty w, (Builtin.max_ #[3, 3] ty [.int .i64 n, .int .i64 (((l.getD i.toNat (0, (0, 0))).1) + 1)].toArray).run Try.prog w = .ok (.int .i64 (max n (((l.getD i.toNat (0, (0, 0))).1) + 1))) w) ∧ True) hA hD ⟨by decide +kernel, by exact box_cellC (box_atC H0 none 1 rfl (fun e => by cases e)) 0, tv, tv, ⟨by kernel_rfl, by exact idx_ok (H0.argT hL) (by omega) (by omega)⟩, by decide +kernel, by exact cell_flatC hM0 (i := i) (H0.argT hL) (by omega) (by omega) (0, (0, 0)) 0, ⟨by omega, by omega⟩, fun ty w => max_ok ty w, tv⟩ fun a hA => ?_
   refine m_one 9 ?_; refine q_one 9 [] [(0, vl), (3, pv b10), (4, iv i), (100, iv (max n (((l.getD i.toNat (0, (0, 0))).1) + 1))), (101, .pointer (some ⟨b10, 0 + 0, none⟩))] ((0 < Try.prog.cellsOf 3) ∧ True) hA H ⟨by decide +kernel, tv⟩ fun a w54 H hA hG => ?_
   refine ⟨fun h => absurd h (by decide), ?_⟩
   refine m_one 10 ?_; refine q_store 10 3 (.tmp 101) (.tmp 100) 1 b10 (0 + 0) 24 [.int .i64 n, v48] [.int .i64 (max n (((l.getD i.toNat (0, (0, 0))).1) + 1))] [.int .i64 (max n (((l.getD i.toNat (0, (0, 0))).1) + 1)), v48] (.int .i64 (max n (((l.getD i.toNat (0, (0, 0))).1) + 1))) [(0, vl), (3, pv b10), (4, iv i)] hA H rfl rfl (Nat.le_of_ble_eq_true (by kernel_rfl)) rfl (fun v hv => by simp only [List.mem_cons, List.not_mem_nil, or_false] at hv; rcases hv with rfl; exact rfl) fun a w55 H hA hG => ?_
   replace H : Fr _ _ _ [.row 99 v48 (e ++ [((l.getD i.toNat (0, (0, 0))).1, ((l.getD i.toNat (0, (0, 0))).2).1)]), .box b10 24 [.int .i64 (max n (((l.getD i.toNat (0, (0, 0))).1) + 1)), v48]] := H
   refine ⟨fun h => absurd h (by decide), ?_⟩
   refine m_end ?_
   refine hK52 _ _ ?_
   have H0 := H
   have hM0 := H0.keeps none (.inl rfl)
   refine region_mix (But w55 none) [0, 1, 2, 3, 4, 5, 6, 7, 8] 11 ?_
   replace H := H.drawn; have hD := But.drew w55 none
   generalize ({ w55 with drawn := w55.drawn + 1 } : World) = w56 at H hD ⊢
   refine m_take (n := 2) [0, 1, 2, 3, 4, 5, 6, 7, 8] #[true, true, true, true, true, true, true, true, true, false, false] [(103, iv (max n (((l.getD i.toNat (0, (0, 0))).1) + 1))), (108, iv (((l.getD i.toNat (0, (0, 0))).2).1)), (110, iv (max (max n (((l.getD i.toNat (0, (0, 0))).1) + 1)) ((((l.getD i.toNat (0, (0, 0))).2).1) + 1)))] [(0, vl), (3, pv b10), (4, iv i), (110, iv (max (max n (((l.getD i.toNat (0, (0, 0))).1) + 1)) ((((l.getD i.toNat (0, (0, 0))).2).1) + 1)))] ((0 < Try.prog.cellsOf 3) ∧ (CellOk (But w55 none) b10 (0 + 0) (.int .i64 (max n (((l.getD i.toNat (0, (0, 0))).1) + 1)))) ∧ TT ∧ TT ∧ ((Try.prog.info? 113).isSome = true ∧ IdxOk vl i) ∧ (0 < Try.prog.cellsOf 3) ∧ (CellOk (But w55 none) (hdB vl) (hdO vl + i.toNat * 3 + 1) (.int .i64 (((l.getD i.toNat (0, (0, 0))).2).1))) ∧ (InR .i64 ((((l.getD i.toNat (0, (0, 0))).2).1) + 1)) ∧ (∀ ty w, (Builtin.max_ #[3, 3] ty [.int .i64 (max n (((l.getD i.toNat (0, (0, 0))).1) + 1)), .int .i64 ((((l.getD i.toNat (0, (0, 0))).2).1) + 1)].toArray).run Try.prog w = .ok (.int .i64 (max (max n (((l.getD i.toNat (0, (0, 0))).1) + 1)) ((((l.getD i.toNat (0, (0, 0))).2).1) + 1))) w) ∧ True) hA hD ⟨by decide +kernel, by exact box_cellC (box_atC H0 none 1 rfl (fun e => by cases e)) 0, tv, tv, ⟨by kernel_rfl, by exact idx_ok (H0.argT hL) (by omega) (by omega)⟩, by decide +kernel, by exact cell_flatC hM0 (i := i) (H0.argT hL) (by omega) (by omega) (0, (0, 0)) 1, ⟨by omega, by omega⟩, fun ty w => max_ok ty w, tv⟩ fun a hA => ?_
   refine m_one 9 ?_; refine q_one 9 [] [(0, vl), (3, pv b10), (4, iv i), (110, iv (max (max n (((l.getD i.toNat (0, (0, 0))).1) + 1)) ((((l.getD i.toNat (0, (0, 0))).2).1) + 1))), (111, .pointer (some ⟨b10, 0 + 0, none⟩))] ((0 < Try.prog.cellsOf 3) ∧ True) hA H ⟨by decide +kernel, tv⟩ fun a w57 H hA hG => ?_
   refine ⟨fun h => absurd h (by decide), ?_⟩
   refine m_one 10 ?_; refine q_store 10 3 (.tmp 111) (.tmp 110) 1 b10 (0 + 0) 24 [.int .i64 (max n (((l.getD i.toNat (0, (0, 0))).1) + 1)), v48] [.int .i64 (max (max n (((l.getD i.toNat (0, (0, 0))).1) + 1)) ((((l.getD i.toNat (0, (0, 0))).2).1) + 1))] [.int .i64 (max (max n (((l.getD i.toNat (0, (0, 0))).1) + 1)) ((((l.getD i.toNat (0, (0, 0))).2).1) + 1)), v48] (.int .i64 (max (max n (((l.getD i.toNat (0, (0, 0))).1) + 1)) ((((l.getD i.toNat (0, (0, 0))).2).1) + 1))) [(0, vl), (3, pv b10), (4, iv i)] hA H rfl rfl (Nat.le_of_ble_eq_true (by kernel_rfl)) rfl (fun v hv => by simp only [List.mem_cons, List.not_mem_nil, or_false] at hv; rcases hv with rfl; exact rfl) fun a w58 H hA hG => ?_
   replace H : Fr _ _ _ [.row 99 v48 (e ++ [((l.getD i.toNat (0, (0, 0))).1, ((l.getD i.toNat (0, (0, 0))).2).1)]), .box b10 24 [.int .i64 (max (max n (((l.getD i.toNat (0, (0, 0))).1) + 1)) ((((l.getD i.toNat (0, (0, 0))).2).1) + 1)), v48]] := H
   refine ⟨fun h => absurd h (by decide), ?_⟩
   refine m_end ?_
   refine hK21 _ _ ?_
   refine q_reg [] [(0, vl), (3, pv b10), (4, iv (i + 1))] (TT ∧ (InR .i64 (i + 1)) ∧ TT ∧ True) hA H ⟨tv, ⟨by omega, by omega⟩, tv, tv⟩ fun a w59 hA H hG => ?_
   replace H := Fr.order [.row 99 v48 (e ++ [((l.getD i.toNat (0, (0, 0))).1, ((l.getD i.toNat (0, (0, 0))).2).1)]), .box b10 24 [.int .i64 (max (max n (((l.getD i.toNat (0, (0, 0))).1) + 1)) ((((l.getD i.toNat (0, (0, 0))).2).1) + 1)), v48]] [] H [0, 1] (by show List.Perm _ (List.range 2); decide)
   replace H : Fr _ _ _ [.row 99 v48 (e ++ [((l.getD i.toNat (0, (0, 0))).1, ((l.getD i.toNat (0, (0, 0))).2).1)]), .box b10 24 [.int .i64 (max (max n (((l.getD i.toNat (0, (0, 0))).1) + 1)) ((((l.getD i.toNat (0, (0, 0))).2).1) + 1)), v48]] := H
   refine ⟨(i + 1, max (max n (((l.getD i.toNat (0, (0, 0))).1) + 1)) ((((l.getD i.toNat (0, (0, 0))).2).1) + 1), v48, e ++ [((l.getD i.toNat (0, (0, 0))).1, ((l.getD i.toNat (0, (0, 0))).2).1)]), ⟨env_sub _ hA, ⟨_, H⟩, ?_⟩, ?_⟩
   · (try dsimp only); exact ⟨by omega, by omega, by (try simp only [List.length_append, List.length_cons, List.length_nil]); omega, fun j hj => if q : (j : Int) = i then (by rw [show j = i.toNat by omega]; exact hlk) else hok j (by omega), by rw [nK_snoc h0 (by omega), ← hn], by rw [eK_snoc h0 (by omega), ← he]⟩
   (try dsimp only); omega
 have hhb20 := of_decide_eq_false hb20
 refine go_exit 0 ?_
 refine hK12 _ _ ?_
 refine go_seq fun K60 hK60 => ?_
 refine go_seq fun K61 hK61 => ?_
 have hwh : okWh l := fun j hj => hok j (by omega)
 rw [List.take_of_length_le (by omega)] at hn he
 refine q_reg [(112, .agg #[.int .i64 n, ve]), (113, iv (rightE n e))] [(0, vl), (3, pv b10), (114, .bool (!decide (rightE n e = 0)))] (((Try.prog.info? 24).isSome = true ∧ RowOk (On w19) b10 (0) (Try.prog.cellsOf 24) #[.int .i64 n, ve]) ∧ (Callable Try.prog 27 ∧ CallOk Try.prog (On w19) 27 [.agg #[.int .i64 n, ve]].toArray (.int .i64 (rightE n e))) ∧ TT ∧ True) hA H ⟨⟨by kernel_rfl, by exact box_row H 1 rfl 0 2⟩, ⟨callable_of, callOk_of fun w hw => by exact rright_any n ve e w (by omega) (((H.on hw).out 0 rfl))⟩, tv, tv⟩ fun a w62 hA H hG => ?_
 refine hK61 _ _ ?_
 refine go_cond hA (.tmp 114) (!decide (rightE n e = 0)) (fun hb63 => ?_) (fun hb63 => ?_)
 · have hhb63 := of_decide_eq_false (nT hb63)
   refine go_seq fun K64 hK64 => ?_
   refine q_reg [] [(2, .bool false)] (TT ∧ True) hA H ⟨tv, tv⟩ fun a w65 hA H hG => ?_
   refine hK64 _ _ ?_
   refine go_ret_ ?_
   refine ret_one 2 (.bool false) hA ?_
   exact ans_b' (Eq.symm (by first | exact rk_big (by omega) | exact rk_not (by omega) (okLk_twice k0 (by omega) hhb63) | exact rk_not (i := i.toNat) (by omega) (okLk_no hhb63) | exact rk_err (by rw [← hn, ← he]; exact hhb63))) H.below
 have hhb63 := of_decide_eq_true (nF hb63)
 refine go_skip ?_
 refine hK60 _ _ ?_
 refine go_seq fun K66 hK66 => ?_
 have hr17 := hhb63
 refine q_reg [] [(0, vl), (3, pv b10), (6, (.slice none 0 0))] (TT ∧ True) hA H ⟨tv, tv⟩ fun a w67 hA H hG => ?_
 refine hK66 _ _ ?_
 refine go_seq fun K68 hK68 => ?_
 refine go_seq fun K69 hK69 => ?_
 refine q_reg [] [(0, vl), (3, pv b10), (6, (.slice none 0 0)), (7, iv 0)] (TT ∧ True) hA H ⟨tv, tv⟩ fun a w70 hA H hG => ?_
 refine hK69 _ _ ?_
 refine go_block 4 ?_
 replace H := H.newRow (α := Int) 3
 refine go_loop_ (Int × Value × List Int) (fun x_ a W => (fun (t : Int) (va : Value) (al : List Int) => EnvOk 131 a (keepEnv [(0, vl), (3, pv b10), (6, va), (7, iv t)]) ∧ (∃ S, Fr (org w) W S [.row 3 va al, .row 99 ve e, .box b10 24 [.int .i64 n, ve]]) ∧ 0 ≤ t ∧ t ≤ (l.length : Int) ∧ al = upto t) x_.1 x_.2.1 x_.2.2) (fun x_ => (fun (t : Int) (va : Value) (al : List Int) => ((l.length : Int) - t).toNat) x_.1 x_.2.1 x_.2.2) (0, .slice none 0 0, []) ?_ (fun x_ a w72 hI => ?_)
 · (try dsimp only); exact ⟨env_sub _ hA, ⟨_, H⟩, by omega, by omega, rfl⟩
 obtain ⟨t, va, al⟩ := x_
 obtain ⟨hA, ⟨S, H⟩, t0, t0b, hal⟩ := hI
 try dsimp only at t0 t0b hal
 replace H : Fr _ _ _ [.row 3 va al, .row 99 ve e, .box b10 24 [.int .i64 n, ve]] := H
 have hall : al.length = t.toNat := by rw [hal, upto_len]
 refine go_seq fun K73 hK73 => ?_
 refine go_seq fun K74 hK74 => ?_
 refine q_reg [(117, iv (l.length : Int))] [(0, vl), (3, pv b10), (6, va), (7, iv t), (118, .bool (decide (t < (l.length : Int))))] (TT ∧ TT ∧ (LenOk vl (l.length : Int)) ∧ TT ∧ True) hA H ⟨tv, tv, by exact len_ok (H.arg hL), tv, tv⟩ fun a w75 hA H hG => ?_
 refine hK74 _ _ ?_
 refine go_cond hA (.tmp 118) (decide (t < (l.length : Int))) (fun hb76 => ?_) (fun hb76 => ?_)
 · have hhb76 := of_decide_eq_true hb76
   refine go_skip ?_
   refine hK73 _ _ ?_
   refine go_seq fun K77 hK77 => ?_
   refine go_block 5 ?_
   refine region_list ?_
   refine q_list 0 2 [] [(0, vl), (3, pv b10), (7, iv t), (121, va), (122, iv t)] (TT ∧ TT ∧ True) hA H ⟨tv, tv, tv⟩ fun a w78 hA H hG => ?_
   refine list_at 2 ?_; refine q_lit 2 123 27 1 #[(0, .tmp 122)] 3 [(0, iv t)] [.int .i64 t] [(0, vl), (3, pv b10), (7, iv t), (121, va)] hA H fun b79 a w80 H hA hG hge_b79 => ?_
   clear hge_b79
   refine list_at 3 ?_; refine q_push 3 124 (.tmp 121) (.tmp 123) 1 0 b79 1 1 va al [t] [.int .i64 t] [(0, vl), (3, pv b10), (7, iv t)] hA H Try.E27 rfl rfl (by exact (RowRd.single (α := Int) rfl)) rfl (by simp only [List.length_cons, List.length_nil, List.length_append]; omega) (by decide) fun v81 a w82 H hA hG => ?_
   replace H : Fr _ _ _ [.row 3 v81 (al ++ [t]), .row 99 ve e, .box b10 24 [.int .i64 n, ve]] := H.drop 0
   refine q_list 4 1 [] [(0, vl), (3, pv b10), (6, v81), (7, iv t)] (TT ∧ True) hA H ⟨tv, tv⟩ fun a w83 hA H hG => ?_
   refine list_end ?_
   refine hK77 _ _ ?_
   refine q_reg [] [(0, vl), (3, pv b10), (6, v81), (7, iv (t + 1))] (TT ∧ (InR .i64 (t + 1)) ∧ TT ∧ True) hA H ⟨tv, ⟨by omega, by omega⟩, tv, tv⟩ fun a w84 hA H hG => ?_
   refine ⟨(t + 1, v81, al ++ [t]), ⟨env_sub _ hA, ⟨_, H⟩, ?_⟩, ?_⟩
   · (try dsimp only); exact ⟨by omega, by omega, by rw [hal, upto_succ t0]⟩
   (try dsimp only); omega
 have hhb76 := of_decide_eq_false hb76
 refine go_exit 4 ?_
 refine hK68 _ _ ?_
 refine go_seq fun K85 hK85 => ?_
 have hre : rightE (nK l) (eK l) = 0 := by rw [← hn, ← he]; exact hr17
 rw [show t = (l.length : Int) by omega] at hal
 have hpt : partE n e (vertsL l) al = 0 := by rw [hn, he, hal]; exact part_K hre
 have H0 := H
 have hM0 := H0.keeps none (.inl rfl)
 refine region_mix (But w75 none) [0, 1, 2, 3, 4, 5] 7 ?_
 replace H := H.drawn; have hD := But.drew w75 none
 generalize ({ w75 with drawn := w75.drawn + 1 } : World) = w86 at H hD ⊢
 refine m_take (n := 4) [0, 1, 3] #[true, true, false, true, false, false, false] [(125, .agg #[.int .i64 n, ve])] [(125, .agg #[.int .i64 n, ve]), (126, vl), (128, va)] (((Try.prog.info? 24).isSome = true ∧ RowOk (But w75 none) b10 (0) (Try.prog.cellsOf 24) #[.int .i64 n, ve]) ∧ TT ∧ TT ∧ True) hA hD ⟨⟨by kernel_rfl, by exact box_rowC (box_atC H0 none 2 rfl (fun e => by cases e)) 0 2⟩, tv, tv, tv⟩ fun a hA => ?_
 refine m_one 2 ?_; refine q_call 2 127 58 #[.tmp 126] #[66] [vl] (fun S v_ w' => Rd S w' v_ (vertsL l)) [(125, .agg #[.int .i64 n, ve]), (128, va)] hA H (by exact rverts_any vl l H.at ((H.arg hL)) (by omega)) fun v87 a w88 S hR89 H hA hG => ?_
 replace H := H.ro hR89
 replace hD := hD.below hG
 refine ⟨fun _ => hD, ?_⟩
 refine m_take (n := 2) [4] #[true, true, true, true, true, false, false] [(129, .agg #[v87, va])] [(125, .agg #[.int .i64 n, ve]), (129, .agg #[v87, va])] ((∀ w, (Instr.build 29 #[(0, v87), (1, va)]).run Try.prog w = .ok (.agg #[v87, va]) w) ∧ True) hA hD ⟨fun w => by obtain ⟨_, _, _, e0⟩ := rd_form (H.get 0 rfl); rw [e0]; obtain ⟨_, _, _, e1⟩ := rd_form (H.out 1 rfl); rw [e1]; kernel_rfl, tv⟩ fun a hA => ?_
 refine m_one 5 ?_; refine q_one 5 [(130, .bool (solidB n e (vertsL l) al))] [(130, .bool (solidB n e (vertsL l) al))] ((Callable Try.prog 88 ∧ CallOk Try.prog (On w88) 88 [.agg #[.int .i64 n, ve], .agg #[v87, va]].toArray (.bool (solidB n e (vertsL l) al))) ∧ True) hA H ⟨⟨callable_of, callOk_of fun w hw => by exact rsolid_any n ve e v87 va (vertsL l) al w (by omega) (((H.on hw).out 2 rfl)) (((H.on hw).get 0 rfl)) (((H.on hw).out 1 rfl)) hpt⟩, tv⟩ fun a w91 H hA hG => ?_
 replace hD := hD.below hG
 refine ⟨fun _ => hD, ?_⟩
 refine m_one 6 ?_; refine q_one 6 [] [(2, .bool (solidB n e (vertsL l) al))] (TT ∧ True) hA H ⟨tv, tv⟩ fun a w92 H hA hG => ?_
 refine ⟨fun h => absurd h (by decide), ?_⟩
 refine m_end ?_
 refine hK85 _ _ ?_
 refine go_ret_ ?_
 refine ret_one 2 (.bool (solidB n e (vertsL l) al)) hA ?_
 exact ans_b' (by rw [rk_ok hwh hre, hn, he, hal]) H.below
end Go.Proofs.Ytahonnlgkmimlaa
namespace Go.Proofs.Ytahonnlgkmimlaa
open Go.RowKit
end Go.Proofs.Ytahonnlgkmimlaa
namespace Go.Proofs.Ytahonnlgkmimlaa
open Go.RowKit
end Go.Proofs.Ytahonnlgkmimlaa
namespace Go.Proofs.Ytahonnlgkmimlaa
open Go.RowKit
def awL : List Lk := [(0, (1, 0)), (1, (2, 1)), (2, (3, 2)), (3, (0, 3)), (0, (2, 4))]
theorem awL_whole : wholeR awL = (((4, [(0, 1), (1, 2), (2, 3), (3, 0), (0, 2)]), ([0, 1, 2, 3], [0, 1, 2, 3, 4])), true) := by
 have h1 : okWh awL := by decide +kernel
 have h2 : rightE (nK awL) (eK awL) = 0 := by decide +kernel
 rw [wholeR_ok h1, spanE_ok h2 (by decide +kernel)]
 decide +kernel
theorem awL_first : firstK awL = some (0, (2, [0, 1])) := by
 unfold firstK rightK candU besK
 rw [awL_whole]
 decide +kernel
theorem awL_wf : WfL awL := by
 intro i h0 h1
 have h1 : i < 5 := h1
 have : i = 0 ∨ i = 1 ∨ i = 2 ∨ i = 3 ∨ i = 4 := by omega
 unfold wfI
 rcases this with rfl | rfl | rfl | rfl | rfl <;> decide +kernel
theorem aw_giv {S : Stab} {w : World} {v : Value} (h : ∃ sd, v = .tuple #[.agg #[.int .i64 (firstD awL).1, .int .i64 (firstD awL).2.1, sd], .bool (firstK awL).isSome] ∧ Rd S w sd (firstD awL).2.2) :
   ∃ sd, v = .tuple #[.agg #[.int .i64 0, .int .i64 2, sd], .bool true] ∧ Rd S w sd ([0, 1] : List Int) := by
 unfold firstD at h; rw [awL_first] at h; exact h
def offM (l : List Lk) (sd : List Int) (i : Int) : List Lk := ((upto i).filter fun j => decide (j ∈ sd)).map fun j => l.getD j.toNat (0, (0, 0))
def restM (l : List Lk) (sd : List Int) (i : Int) : List Lk := ((upto i).filter fun j => !decide (j ∈ sd)).map fun j => l.getD j.toNat (0, (0, 0))
theorem offM_yes {l : List Lk} {sd : List Int} {i : Int} (h0 : 0 ≤ i) (h : i ∈ sd) : offM l sd (i + 1) = offM l sd i ++ [l.getD i.toNat (0, (0, 0))] := by
 unfold offM; rw [upto_succ h0, List.filter_append, List.filter_cons, if_pos (decide_eq_true h), List.map_append]; rfl
theorem offM_no {l : List Lk} {sd : List Int} {i : Int} (h0 : 0 ≤ i) (h : ¬ i ∈ sd) : offM l sd (i + 1) = offM l sd i := by
 unfold offM; rw [upto_succ h0, List.filter_append, List.filter_cons, if_neg (by rw [decide_eq_false h]; decide), List.filter_nil, List.append_nil]
theorem restM_yes {l : List Lk} {sd : List Int} {i : Int} (h0 : 0 ≤ i) (h : i ∈ sd) : restM l sd (i + 1) = restM l sd i := by
 unfold restM; rw [upto_succ h0, List.filter_append, List.filter_cons, if_neg (by rw [decide_eq_true h]; decide), List.filter_nil, List.append_nil]
theorem restM_no {l : List Lk} {sd : List Int} {i : Int} (h0 : 0 ≤ i) (h : ¬ i ∈ sd) : restM l sd (i + 1) = restM l sd i ++ [l.getD i.toNat (0, (0, 0))] := by
 unfold restM; rw [upto_succ h0, List.filter_append, List.filter_cons, if_pos (by rw [decide_eq_false h]; rfl), List.map_append]; rfl
theorem eq_of_getDK {l m : List Lk} (hl : (l.length : Int) = (m.length : Int)) (h : ∀ j : Nat, j < l.length → l.getD j (0, (0, 0)) = m.getD j (0, (0, 0))) : l = m := by
 refine List.ext_getElem (by omega) fun j h1 h2 => ?_
 have := h j h1
 rwa [List.getD_eq_getElem?_getD, List.getD_eq_getElem?_getD, List.getElem?_eq_getElem h1, List.getElem?_eq_getElem h2] at this
theorem lk_ext {a b : Lk} (h1 : a.1 = b.1) (h2 : a.2.1 = b.2.1) (h3 : a.2.2 = b.2.2) : a = b := Prod.ext h1 (Prod.ext h2 h3)
theorem any_no {l : List Lk} {id : Int} (h : ∀ j : Nat, j < l.length → ¬ (l.getD j (0, (0, 0))).2.2 = id) : (l.any fun b => decide (b.2.2 = id)) = false := by
 rw [List.any_eq_false]
 intro x hx
 obtain ⟨j, hj, rfl⟩ := List.getElem_of_mem hx
 have := h j hj
 rw [List.getD_eq_getElem?_getD, List.getElem?_eq_getElem hj, Option.getD_some] at this
 simpa using this
theorem any_yes {l : List Lk} {id : Int} {j : Nat} (hj : j < l.length) (h : (l.getD j (0, (0, 0))).2.2 = id) : (l.any fun b => decide (b.2.2 = id)) = true := by
 rw [List.any_eq_true]
 exact ⟨_, getD_mem hj, decide_eq_true h⟩
theorem of_any (vl : Value) (l : List (Int × Int × Int)) (o : Orig) (hL : Rd (· < o.w.heap.size) o.w vl l) (hs : l.length ≤ 100000) :
 Calls Try.prog 57 [vl].toArray o.w (Giv o (fun S v w' => Rd S w' v (l))) := by
 refine enter Try.f57 31 Try.func57 fun a hA => ?_
 replace hA := env_sub [(0, vl)] hA
 have H := Fr.start o
 refine go_seq fun K1 hK1 => ?_
 refine q_reg [] [(0, vl)] (TT ∧ True) hA H ⟨tv, tv⟩ fun a w2 hA H hG => ?_
 refine hK1 _ _ ?_
 refine go_seq fun K3 hK3 => ?_
 refine q_reg [] [(0, vl), (3, (.slice none 0 0))] (TT ∧ True) hA H ⟨tv, tv⟩ fun a w4 hA H hG => ?_
 refine hK3 _ _ ?_
 refine go_seq fun K5 hK5 => ?_
 refine go_seq fun K6 hK6 => ?_
 refine q_reg [] [(0, vl), (3, (.slice none 0 0)), (4, iv 0)] (TT ∧ True) hA H ⟨tv, tv⟩ fun a w7 hA H hG => ?_
 refine hK6 _ _ ?_
 refine go_block 0 ?_
 replace H := H.newRow (α := Int × Int × Int) 92
 refine go_loop_ (Int × Value × List (Int × Int × Int)) (fun x_ a W => (fun (i : Int) (vr : Value) (e : List (Int × Int × Int)) => EnvOk 31 a (keepEnv [(0, vl), (3, vr), (4, iv i)]) ∧ (∃ S, Fr o W S [.row 92 vr e]) ∧ 0 ≤ i ∧ i ≤ (l.length : Int) ∧ (e.length : Int) ≤ i ∧ e = l.take i.toNat) x_.1 x_.2.1 x_.2.2) (fun x_ => (fun (i : Int) (vr : Value) (e : List (Int × Int × Int)) => ((l.length : Int) - i).toNat) x_.1 x_.2.1 x_.2.2) (0, .slice none 0 0, []) ?_ (fun x_ a w9 hI => ?_)
 · (try dsimp only); exact ⟨env_sub _ hA, ⟨_, H⟩, by omega, by omega, by simp, by simp⟩
 obtain ⟨i, vr, e⟩ := x_
 obtain ⟨hA, ⟨S, H⟩, h0, h0b, h1, hi⟩ := hI
 try dsimp only at h0 h0b h1 hi
 replace H : Fr _ _ _ [.row 92 vr e] := H
 refine go_seq fun K10 hK10 => ?_
 refine go_seq fun K11 hK11 => ?_
 refine q_reg [(7, iv (l.length : Int))] [(0, vl), (3, vr), (4, iv i), (8, .bool (decide (i < (l.length : Int))))] (TT ∧ TT ∧ (LenOk vl (l.length : Int)) ∧ TT ∧ True) hA H ⟨tv, tv, by exact len_ok (H.arg hL), tv, tv⟩ fun a w12 hA H hG => ?_
 refine hK11 _ _ ?_
 refine go_cond hA (.tmp 8) (decide (i < (l.length : Int))) (fun hb13 => ?_) (fun hb13 => ?_)
 · have hhb13 := of_decide_eq_true hb13
   refine go_skip ?_
   refine hK10 _ _ ?_
   refine go_seq fun K14 hK14 => ?_
   refine go_block 1 ?_
   have H0 := H
   have hM0 := H0.keeps vr.ownBlock (.inr ⟨_, List.mem_of_getElem? (i := 0) rfl, rfl⟩)
   refine region_mix (But w12 vr.ownBlock) [0, 1, 2, 3, 4, 5, 6, 7, 8, 9, 10, 11, 12, 13, 14, 15, 16, 17, 18] 20 ?_
   replace H := H.drawn; have hD := But.drew w12 vr.ownBlock
   generalize ({ w12 with drawn := w12.drawn + 1 } : World) = w15 at H hD ⊢
   refine m_take (n := 3) [0, 1, 2, 3, 4, 5, 6, 7, 8, 9, 10, 11, 12, 13, 14, 15, 16] #[true, true, true, true, true, true, true, true, true, true, true, true, true, true, true, true, true, false, false, false] [(16, iv ((l.getD i.toNat (0, (0, 0))).1)), (21, iv (((l.getD i.toNat (0, (0, 0))).2).1)), (26, iv (((l.getD i.toNat (0, (0, 0))).2).2)), (27, .agg #[.int .i64 ((l.getD i.toNat (0, (0, 0))).1), .int .i64 (((l.getD i.toNat (0, (0, 0))).2).1), .int .i64 (((l.getD i.toNat (0, (0, 0))).2).2)])] [(0, vl), (3, vr), (4, iv i), (11, vr), (27, .agg #[.int .i64 ((l.getD i.toNat (0, (0, 0))).1), .int .i64 (((l.getD i.toNat (0, (0, 0))).2).1), .int .i64 (((l.getD i.toNat (0, (0, 0))).2).2)])] (TT ∧ TT ∧ TT ∧ ((Try.prog.info? 113).isSome = true ∧ IdxOk vl i) ∧ (0 < Try.prog.cellsOf 3) ∧ (CellOk (But w12 vr.ownBlock) (hdB vl) (hdO vl + i.toNat * 3 + 0) (.int .i64 ((l.getD i.toNat (0, (0, 0))).1))) ∧ TT ∧ TT ∧ ((Try.prog.info? 113).isSome = true ∧ IdxOk vl i) ∧ (0 < Try.prog.cellsOf 3) ∧ (CellOk (But w12 vr.ownBlock) (hdB vl) (hdO vl + i.toNat * 3 + 1) (.int .i64 (((l.getD i.toNat (0, (0, 0))).2).1))) ∧ TT ∧ TT ∧ ((Try.prog.info? 113).isSome = true ∧ IdxOk vl i) ∧ (0 < Try.prog.cellsOf 3) ∧ (CellOk (But w12 vr.ownBlock) (hdB vl) (hdO vl + i.toNat * 3 + 2) (.int .i64 (((l.getD i.toNat (0, (0, 0))).2).2))) ∧ (∀ w, (Instr.build 92 #[(0, iv ((l.getD i.toNat (0, (0, 0))).1)), (1, iv (((l.getD i.toNat (0, (0, 0))).2).1)), (2, iv (((l.getD i.toNat (0, (0, 0))).2).2))]).run Try.prog w = .ok (.agg #[.int .i64 ((l.getD i.toNat (0, (0, 0))).1), .int .i64 (((l.getD i.toNat (0, (0, 0))).2).1), .int .i64 (((l.getD i.toNat (0, (0, 0))).2).2)]) w) ∧ True) hA hD ⟨tv, tv, tv, ⟨by kernel_rfl, by exact idx_ok (H0.argT hL) (by omega) (by omega)⟩, by decide +kernel, by exact cell_flatC hM0 (i := i) (H0.argT hL) (by omega) (by omega) (0, (0, 0)) 0, tv, tv, ⟨by kernel_rfl, by exact idx_ok (H0.argT hL) (by omega) (by omega)⟩, by decide +kernel, by exact cell_flatC hM0 (i := i) (H0.argT hL) (by omega) (by omega) (0, (0, 0)) 1, tv, tv, ⟨by kernel_rfl, by exact idx_ok (H0.argT hL) (by omega) (by omega)⟩, by decide +kernel, by exact cell_flatC hM0 (i := i) (H0.argT hL) (by omega) (by omega) (0, (0, 0)) 2, fun w => by kernel_rfl, tv⟩ fun a hA => ?_
   refine m_one 17 ?_; refine q_lit 17 28 69 1 #[(0, .tmp 27)] 92 [(0, .agg #[.int .i64 ((l.getD i.toNat (0, (0, 0))).1), .int .i64 (((l.getD i.toNat (0, (0, 0))).2).1), .int .i64 (((l.getD i.toNat (0, (0, 0))).2).2)])] [.int .i64 ((l.getD i.toNat (0, (0, 0))).1), .int .i64 (((l.getD i.toNat (0, (0, 0))).2).1), .int .i64 (((l.getD i.toNat (0, (0, 0))).2).2)] [(0, vl), (3, vr), (4, iv i), (11, vr)] hA H fun b16 a w17 H hA hG hge_b16 => ?_
   replace hge_b16 := Nat.le_trans hD.1 hge_b16
   replace hD := hD.below hG
   refine ⟨fun _ => hD, ?_⟩
   refine m_one 18 ?_; refine q_push 18 29 (.tmp 11) (.tmp 28) 1 0 b16 1 1 vr e [((l.getD i.toNat (0, (0, 0))).1, (((l.getD i.toNat (0, (0, 0))).2).1, ((l.getD i.toNat (0, (0, 0))).2).2))] [.int .i64 ((l.getD i.toNat (0, (0, 0))).1), .int .i64 (((l.getD i.toNat (0, (0, 0))).2).1), .int .i64 (((l.getD i.toNat (0, (0, 0))).2).2)] [(0, vl), (3, vr), (4, iv i)] hA H Try.E69 rfl rfl (by exact (RowRd.single (α := Int × Int × Int) ⟨[_], _, rfl, rfl, ⟨[_], _, rfl, rfl, rfl⟩⟩)) rfl (by simp only [List.length_cons, List.length_nil, List.length_append]; omega) (by decide) fun v18 a w19 H hA hG => ?_
   replace H : Fr _ _ _ [.row 92 v18 (e ++ [((l.getD i.toNat (0, (0, 0))).1, (((l.getD i.toNat (0, (0, 0))).2).1, ((l.getD i.toNat (0, (0, 0))).2).2))])] := H.drop 0
   replace hD := hD.grown hG (fun b hb => .inl hb.symm)
   refine ⟨fun _ => hD, ?_⟩
   refine m_one 19 ?_; refine q_one 19 [] [(0, vl), (3, v18), (4, iv i)] (TT ∧ True) hA H ⟨tv, tv⟩ fun a w20 H hA hG => ?_
   refine ⟨fun h => absurd h (by decide), ?_⟩
   refine m_end ?_
   refine hK14 _ _ ?_
   refine q_reg [] [(0, vl), (3, v18), (4, iv (i + 1))] (TT ∧ (InR .i64 (i + 1)) ∧ TT ∧ True) hA H ⟨tv, ⟨by omega, by omega⟩, tv, tv⟩ fun a w21 hA H hG => ?_
   refine ⟨(i + 1, v18, e ++ [((l.getD i.toNat (0, (0, 0))).1, (((l.getD i.toNat (0, (0, 0))).2).1, ((l.getD i.toNat (0, (0, 0))).2).2))]), ⟨env_sub _ hA, ⟨_, H⟩, ?_⟩, ?_⟩
   · (try dsimp only); exact ⟨by omega, by omega, by (try simp only [List.length_append, List.length_cons, List.length_nil]); omega, by rw [take_snocK h0 (by omega), ← hi]⟩
   (try dsimp only); omega
 have hhb13 := of_decide_eq_false hb13
 refine go_exit 0 ?_
 refine hK5 _ _ ?_
 refine go_seq fun K22 hK22 => ?_
 refine q_reg [] [(2, vr)] (TT ∧ TT ∧ True) hA H ⟨tv, tv, tv⟩ fun a w23 hA H hG => ?_
 refine hK22 _ _ ?_
 refine go_ret_ ?_
 refine ret_one 2 vr hA ?_
 have ho := (H.give 0 rfl)
 rw [List.take_of_length_le (by omega)] at hi; rw [hi] at ho; exact ⟨_, rfl, ho, H.below⟩
theorem plain_any (vl : Value) (l : List (Int × Int × Int)) (o : Orig) (hL : Rd (· < o.w.heap.size) o.w vl l) (hs : l.length ≤ 100000) :
 Calls Try.prog 72 [vl].toArray o.w (Giv o (fun S v w' => Rd S w' v (l))) := by
 refine enter Try.f72 31 Try.func72 fun a hA => ?_
 replace hA := env_sub [(0, vl)] hA
 have H := Fr.start o
 refine go_seq fun K1 hK1 => ?_
 refine q_reg [] [(0, vl)] (TT ∧ True) hA H ⟨tv, tv⟩ fun a w2 hA H hG => ?_
 refine hK1 _ _ ?_
 refine go_seq fun K3 hK3 => ?_
 refine q_reg [] [(0, vl), (3, (.slice none 0 0))] (TT ∧ True) hA H ⟨tv, tv⟩ fun a w4 hA H hG => ?_
 refine hK3 _ _ ?_
 refine go_seq fun K5 hK5 => ?_
 refine go_seq fun K6 hK6 => ?_
 refine q_reg [] [(0, vl), (3, (.slice none 0 0)), (4, iv 0)] (TT ∧ True) hA H ⟨tv, tv⟩ fun a w7 hA H hG => ?_
 refine hK6 _ _ ?_
 refine go_block 0 ?_
 replace H := H.newRow (α := Int × Int × Int) 113
 refine go_loop_ (Int × Value × List (Int × Int × Int)) (fun x_ a W => (fun (i : Int) (vr : Value) (e : List (Int × Int × Int)) => EnvOk 31 a (keepEnv [(0, vl), (3, vr), (4, iv i)]) ∧ (∃ S, Fr o W S [.row 113 vr e]) ∧ 0 ≤ i ∧ i ≤ (l.length : Int) ∧ (e.length : Int) ≤ i ∧ e = l.take i.toNat) x_.1 x_.2.1 x_.2.2) (fun x_ => (fun (i : Int) (vr : Value) (e : List (Int × Int × Int)) => ((l.length : Int) - i).toNat) x_.1 x_.2.1 x_.2.2) (0, .slice none 0 0, []) ?_ (fun x_ a w9 hI => ?_)
 · (try dsimp only); exact ⟨env_sub _ hA, ⟨_, H⟩, by omega, by omega, by simp, by simp⟩
 obtain ⟨i, vr, e⟩ := x_
 obtain ⟨hA, ⟨S, H⟩, h0, h0b, h1, hi⟩ := hI
 try dsimp only at h0 h0b h1 hi
 replace H : Fr _ _ _ [.row 113 vr e] := H
 refine go_seq fun K10 hK10 => ?_
 refine go_seq fun K11 hK11 => ?_
 refine q_reg [(7, iv (l.length : Int))] [(0, vl), (3, vr), (4, iv i), (8, .bool (decide (i < (l.length : Int))))] (TT ∧ TT ∧ (LenOk vl (l.length : Int)) ∧ TT ∧ True) hA H ⟨tv, tv, by exact len_ok (H.arg hL), tv, tv⟩ fun a w12 hA H hG => ?_
 refine hK11 _ _ ?_
 refine go_cond hA (.tmp 8) (decide (i < (l.length : Int))) (fun hb13 => ?_) (fun hb13 => ?_)
 · have hhb13 := of_decide_eq_true hb13
   refine go_skip ?_
   refine hK10 _ _ ?_
   refine go_seq fun K14 hK14 => ?_
   refine go_block 1 ?_
   have H0 := H
   have hM0 := H0.keeps vr.ownBlock (.inr ⟨_, List.mem_of_getElem? (i := 0) rfl, rfl⟩)
   refine region_mix (But w12 vr.ownBlock) [0, 1, 2, 3, 4, 5, 6, 7, 8, 9, 10, 11, 12, 13, 14, 15, 16, 17, 18] 20 ?_
   replace H := H.drawn; have hD := But.drew w12 vr.ownBlock
   generalize ({ w12 with drawn := w12.drawn + 1 } : World) = w15 at H hD ⊢
   refine m_take (n := 3) [0, 1, 2, 3, 4, 5, 6, 7, 8, 9, 10, 11, 12, 13, 14, 15, 16] #[true, true, true, true, true, true, true, true, true, true, true, true, true, true, true, true, true, false, false, false] [(16, iv ((l.getD i.toNat (0, (0, 0))).1)), (21, iv (((l.getD i.toNat (0, (0, 0))).2).1)), (26, iv (((l.getD i.toNat (0, (0, 0))).2).2)), (27, .agg #[.int .i64 ((l.getD i.toNat (0, (0, 0))).1), .int .i64 (((l.getD i.toNat (0, (0, 0))).2).1), .int .i64 (((l.getD i.toNat (0, (0, 0))).2).2)])] [(0, vl), (3, vr), (4, iv i), (11, vr), (27, .agg #[.int .i64 ((l.getD i.toNat (0, (0, 0))).1), .int .i64 (((l.getD i.toNat (0, (0, 0))).2).1), .int .i64 (((l.getD i.toNat (0, (0, 0))).2).2)])] (TT ∧ TT ∧ TT ∧ ((Try.prog.info? 92).isSome = true ∧ IdxOk vl i) ∧ (0 < Try.prog.cellsOf 3) ∧ (CellOk (But w12 vr.ownBlock) (hdB vl) (hdO vl + i.toNat * 3 + 0) (.int .i64 ((l.getD i.toNat (0, (0, 0))).1))) ∧ TT ∧ TT ∧ ((Try.prog.info? 92).isSome = true ∧ IdxOk vl i) ∧ (0 < Try.prog.cellsOf 3) ∧ (CellOk (But w12 vr.ownBlock) (hdB vl) (hdO vl + i.toNat * 3 + 1) (.int .i64 (((l.getD i.toNat (0, (0, 0))).2).1))) ∧ TT ∧ TT ∧ ((Try.prog.info? 92).isSome = true ∧ IdxOk vl i) ∧ (0 < Try.prog.cellsOf 3) ∧ (CellOk (But w12 vr.ownBlock) (hdB vl) (hdO vl + i.toNat * 3 + 2) (.int .i64 (((l.getD i.toNat (0, (0, 0))).2).2))) ∧ (∀ w, (Instr.build 113 #[(0, iv ((l.getD i.toNat (0, (0, 0))).1)), (1, iv (((l.getD i.toNat (0, (0, 0))).2).1)), (2, iv (((l.getD i.toNat (0, (0, 0))).2).2))]).run Try.prog w = .ok (.agg #[.int .i64 ((l.getD i.toNat (0, (0, 0))).1), .int .i64 (((l.getD i.toNat (0, (0, 0))).2).1), .int .i64 (((l.getD i.toNat (0, (0, 0))).2).2)]) w) ∧ True) hA hD ⟨tv, tv, tv, ⟨by kernel_rfl, by exact idx_ok (H0.argT hL) (by omega) (by omega)⟩, by decide +kernel, by exact cell_flatC hM0 (i := i) (H0.argT hL) (by omega) (by omega) (0, (0, 0)) 0, tv, tv, ⟨by kernel_rfl, by exact idx_ok (H0.argT hL) (by omega) (by omega)⟩, by decide +kernel, by exact cell_flatC hM0 (i := i) (H0.argT hL) (by omega) (by omega) (0, (0, 0)) 1, tv, tv, ⟨by kernel_rfl, by exact idx_ok (H0.argT hL) (by omega) (by omega)⟩, by decide +kernel, by exact cell_flatC hM0 (i := i) (H0.argT hL) (by omega) (by omega) (0, (0, 0)) 2, fun w => by kernel_rfl, tv⟩ fun a hA => ?_
   refine m_one 17 ?_; refine q_lit 17 28 66 1 #[(0, .tmp 27)] 113 [(0, .agg #[.int .i64 ((l.getD i.toNat (0, (0, 0))).1), .int .i64 (((l.getD i.toNat (0, (0, 0))).2).1), .int .i64 (((l.getD i.toNat (0, (0, 0))).2).2)])] [.int .i64 ((l.getD i.toNat (0, (0, 0))).1), .int .i64 (((l.getD i.toNat (0, (0, 0))).2).1), .int .i64 (((l.getD i.toNat (0, (0, 0))).2).2)] [(0, vl), (3, vr), (4, iv i), (11, vr)] hA H fun b16 a w17 H hA hG hge_b16 => ?_
   replace hge_b16 := Nat.le_trans hD.1 hge_b16
   replace hD := hD.below hG
   refine ⟨fun _ => hD, ?_⟩
   refine m_one 18 ?_; refine q_push 18 29 (.tmp 11) (.tmp 28) 1 0 b16 1 1 vr e [((l.getD i.toNat (0, (0, 0))).1, (((l.getD i.toNat (0, (0, 0))).2).1, ((l.getD i.toNat (0, (0, 0))).2).2))] [.int .i64 ((l.getD i.toNat (0, (0, 0))).1), .int .i64 (((l.getD i.toNat (0, (0, 0))).2).1), .int .i64 (((l.getD i.toNat (0, (0, 0))).2).2)] [(0, vl), (3, vr), (4, iv i)] hA H Try.E66 rfl rfl (by exact (RowRd.single (α := Int × Int × Int) ⟨[_], _, rfl, rfl, ⟨[_], _, rfl, rfl, rfl⟩⟩)) rfl (by simp only [List.length_cons, List.length_nil, List.length_append]; omega) (by decide) fun v18 a w19 H hA hG => ?_
   replace H : Fr _ _ _ [.row 113 v18 (e ++ [((l.getD i.toNat (0, (0, 0))).1, (((l.getD i.toNat (0, (0, 0))).2).1, ((l.getD i.toNat (0, (0, 0))).2).2))])] := H.drop 0
   replace hD := hD.grown hG (fun b hb => .inl hb.symm)
   refine ⟨fun _ => hD, ?_⟩
   refine m_one 19 ?_; refine q_one 19 [] [(0, vl), (3, v18), (4, iv i)] (TT ∧ True) hA H ⟨tv, tv⟩ fun a w20 H hA hG => ?_
   refine ⟨fun h => absurd h (by decide), ?_⟩
   refine m_end ?_
   refine hK14 _ _ ?_
   refine q_reg [] [(0, vl), (3, v18), (4, iv (i + 1))] (TT ∧ (InR .i64 (i + 1)) ∧ TT ∧ True) hA H ⟨tv, ⟨by omega, by omega⟩, tv, tv⟩ fun a w21 hA H hG => ?_
   refine ⟨(i + 1, v18, e ++ [((l.getD i.toNat (0, (0, 0))).1, (((l.getD i.toNat (0, (0, 0))).2).1, ((l.getD i.toNat (0, (0, 0))).2).2))]), ⟨env_sub _ hA, ⟨_, H⟩, ?_⟩, ?_⟩
   · (try dsimp only); exact ⟨by omega, by omega, by (try simp only [List.length_append, List.length_cons, List.length_nil]); omega, by rw [take_snocK h0 (by omega), ← hi]⟩
   (try dsimp only); omega
 have hhb13 := of_decide_eq_false hb13
 refine go_exit 0 ?_
 refine hK5 _ _ ?_
 refine go_seq fun K22 hK22 => ?_
 refine q_reg [] [(2, vr)] (TT ∧ TT ∧ True) hA H ⟨tv, tv, tv⟩ fun a w23 hA H hG => ?_
 refine hK22 _ _ ?_
 refine go_ret_ ?_
 refine ret_one 2 vr hA ?_
 have ho := (H.give 0 rfl)
 rw [List.take_of_length_le (by omega)] at hi; rw [hi] at ho; exact ⟨_, rfl, ho, H.below⟩
theorem eqlk_any (vl vm : Value) (l m : List (Int × Int × Int)) (w : World) (hl : Rd (· < w.heap.size) w vl l) (hm : Rd (· < w.heap.size) w vm m) :
 Calls Try.prog 71 [vl, vm].toArray w (Ans (.bool (decide (l = m))) w) := by
 have hlen := rd_len hl
 refine enter Try.f71 26 Try.func71 fun a hA => ?_
 replace hA := env_sub [(0, vl), (1, vm)] hA
 have H := Fr.start (org w)
 refine go_seq fun K1 hK1 => ?_
 refine q_reg [] [(0, vl), (1, vm)] (TT ∧ True) hA H ⟨tv, tv⟩ fun a w2 hA H hG => ?_
 refine hK1 _ _ ?_
 refine go_seq fun K3 hK3 => ?_
 refine go_seq fun K4 hK4 => ?_
 refine q_reg [(7, iv (l.length : Int)), (9, iv (m.length : Int))] [(0, vl), (1, vm), (10, .bool (!decide ((l.length : Int) = (m.length : Int))))] (TT ∧ (LenOk vl (l.length : Int)) ∧ TT ∧ (LenOk vm (m.length : Int)) ∧ TT ∧ True) hA H ⟨tv, by exact len_ok (H.arg hl), tv, by exact len_ok (H.arg hm), tv, tv⟩ fun a w5 hA H hG => ?_
 refine hK4 _ _ ?_
 refine go_cond hA (.tmp 10) (!decide ((l.length : Int) = (m.length : Int))) (fun hb6 => ?_) (fun hb6 => ?_)
 · have hhb6 := of_decide_eq_false (nT hb6)
   refine go_seq fun K7 hK7 => ?_
   refine q_reg [] [(4, .bool false)] (TT ∧ True) hA H ⟨tv, tv⟩ fun a w8 hA H hG => ?_
   refine hK7 _ _ ?_
   refine go_ret_ ?_
   refine ret_one 4 (.bool false) hA ?_
   exact ans_b' ((decide_eq_false (fun q => hhb6 (by rw [q]))).symm) H.below
 have hhb6 := of_decide_eq_true (nF hb6)
 refine go_skip ?_
 refine hK3 _ _ ?_
 refine go_seq fun K9 hK9 => ?_
 refine go_seq fun K10 hK10 => ?_
 refine q_reg [] [(0, vl), (1, vm), (5, iv 0)] (TT ∧ True) hA H ⟨tv, tv⟩ fun a w11 hA H hG => ?_
 refine hK10 _ _ ?_
 refine go_block 0 ?_
 refine go_loop_ (Int) (fun x_ a W => (fun (i : Int) => EnvOk 26 a (keepEnv [(0, vl), (1, vm), (5, iv i)]) ∧ (∃ S, Fr (org w) W S []) ∧ 0 ≤ i ∧ ∀ j : Nat, (j : Int) < i → l.getD j (0, (0, 0)) = m.getD j (0, (0, 0))) x_) (fun x_ => (fun (i : Int) => ((l.length : Int) - i).toNat) x_) (0) ?_ (fun i a w13 hI => ?_)
 · (try dsimp only); exact ⟨env_sub _ hA, ⟨_, H⟩, by omega, fun j hj => by omega⟩
 obtain ⟨hA, ⟨S, H⟩, h0, hok⟩ := hI
 try dsimp only at h0 hok
 refine go_seq fun K14 hK14 => ?_
 refine go_seq fun K15 hK15 => ?_
 refine q_reg [(13, iv (l.length : Int))] [(0, vl), (1, vm), (5, iv i), (14, .bool (decide (i < (l.length : Int))))] (TT ∧ TT ∧ (LenOk vl (l.length : Int)) ∧ TT ∧ True) hA H ⟨tv, tv, by exact len_ok (H.arg hl), tv, tv⟩ fun a w16 hA H hG => ?_
 refine hK15 _ _ ?_
 refine go_cond hA (.tmp 14) (decide (i < (l.length : Int))) (fun hb17 => ?_) (fun hb17 => ?_)
 · have hhb17 := of_decide_eq_true hb17
   refine go_skip ?_
   refine hK14 _ _ ?_
   refine go_seq fun K18 hK18 => ?_
   refine go_block 1 ?_
   refine go_seq fun K19 hK19 => ?_
   refine q_draw [(20, .agg #[.int .i64 ((l.getD i.toNat (0, (0, 0))).1), .int .i64 (((l.getD i.toNat (0, (0, 0))).2).1), .int .i64 (((l.getD i.toNat (0, (0, 0))).2).2)]), (24, .agg #[.int .i64 ((m.getD i.toNat (0, (0, 0))).1), .int .i64 (((m.getD i.toNat (0, (0, 0))).2).1), .int .i64 (((m.getD i.toNat (0, (0, 0))).2).2)]), (25, .bool ((decide ((l.getD i.toNat (0, (0, 0))).1 = (m.getD i.toNat (0, (0, 0))).1)) && ((decide (((l.getD i.toNat (0, (0, 0))).2).1 = ((m.getD i.toNat (0, (0, 0))).2).1)) && (decide (((l.getD i.toNat (0, (0, 0))).2).2 = ((m.getD i.toNat (0, (0, 0))).2).2)))))] [(0, vl), (1, vm), (5, iv i), (25, .bool (!((decide ((l.getD i.toNat (0, (0, 0))).1 = (m.getD i.toNat (0, (0, 0))).1)) && ((decide (((l.getD i.toNat (0, (0, 0))).2).1 = ((m.getD i.toNat (0, (0, 0))).2).1)) && (decide (((l.getD i.toNat (0, (0, 0))).2).2 = ((m.getD i.toNat (0, (0, 0))).2).2))))))] (TT ∧ TT ∧ ((Try.prog.info? 113).isSome = true ∧ IdxOk vl i) ∧ ((Try.prog.info? 113).isSome = true ∧ RowOk (On w16) (hdB vl) (hdO vl + i.toNat * 3) (Try.prog.cellsOf 113) #[.int .i64 ((l.getD i.toNat (0, (0, 0))).1), .int .i64 (((l.getD i.toNat (0, (0, 0))).2).1), .int .i64 (((l.getD i.toNat (0, (0, 0))).2).2)]) ∧ TT ∧ TT ∧ ((Try.prog.info? 113).isSome = true ∧ IdxOk vm i) ∧ ((Try.prog.info? 113).isSome = true ∧ RowOk (On w16) (hdB vm) (hdO vm + i.toNat * 3) (Try.prog.cellsOf 113) #[.int .i64 ((m.getD i.toNat (0, (0, 0))).1), .int .i64 (((m.getD i.toNat (0, (0, 0))).2).1), .int .i64 (((m.getD i.toNat (0, (0, 0))).2).2)]) ∧ (EqOk Try.prog 113 (.agg #[.int .i64 ((l.getD i.toNat (0, (0, 0))).1), .int .i64 (((l.getD i.toNat (0, (0, 0))).2).1), .int .i64 (((l.getD i.toNat (0, (0, 0))).2).2)]) (.agg #[.int .i64 ((m.getD i.toNat (0, (0, 0))).1), .int .i64 (((m.getD i.toNat (0, (0, 0))).2).1), .int .i64 (((m.getD i.toNat (0, (0, 0))).2).2)]) ((decide ((l.getD i.toNat (0, (0, 0))).1 = (m.getD i.toNat (0, (0, 0))).1)) && ((decide (((l.getD i.toNat (0, (0, 0))).2).1 = ((m.getD i.toNat (0, (0, 0))).2).1)) && (decide (((l.getD i.toNat (0, (0, 0))).2).2 = ((m.getD i.toNat (0, (0, 0))).2).2)))) ∧ Try.prog.eqGuardType Try.prog.depth 113 = false) ∧ True) hA H ⟨tv, tv, ⟨by kernel_rfl, by exact idx_ok (H.arg hl) (by omega) (by omega)⟩, ⟨by kernel_rfl, by exact row_flat (i := i) (H.arg hl) (by omega) (by omega) (0, (0, 0))⟩, tv, tv, ⟨by kernel_rfl, by exact idx_ok (H.arg hm) (by omega) (by omega)⟩, ⟨by kernel_rfl, by exact row_flat (i := i) (H.arg hm) (by omega) (by omega) (0, (0, 0))⟩, ⟨Try.eq113 _ _ _ _ _ _, by kernel_rfl⟩, tv⟩ fun a w20 hA H hG => ?_
   refine hK19 _ _ ?_
   refine go_cond hA (.tmp 25) (!((decide ((l.getD i.toNat (0, (0, 0))).1 = (m.getD i.toNat (0, (0, 0))).1)) && ((decide (((l.getD i.toNat (0, (0, 0))).2).1 = ((m.getD i.toNat (0, (0, 0))).2).1)) && (decide (((l.getD i.toNat (0, (0, 0))).2).2 = ((m.getD i.toNat (0, (0, 0))).2).2))))) (fun hb21 => ?_) (fun hb21 => ?_)
   · have hhb21 := (aF (nT hb21)).imp (fun h => of_decide_eq_false h) (fun h => (aF h).imp (fun h => of_decide_eq_false h) (fun h => of_decide_eq_false h))
     refine go_seq fun K22 hK22 => ?_
     refine q_reg [] [(4, .bool false)] (TT ∧ True) hA H ⟨tv, tv⟩ fun a w23 hA H hG => ?_
     refine hK22 _ _ ?_
     refine go_ret_ ?_
     refine ret_one 4 (.bool false) hA ?_
     exact ans_b' ((decide_eq_false (fun q => by rw [q] at hhb21; simp at hhb21)).symm) H.below
   have hhb21 := (⟨of_decide_eq_true ((aT (nF hb21)).1), (⟨of_decide_eq_true ((aT ((aT (nF hb21)).2)).1), of_decide_eq_true ((aT ((aT (nF hb21)).2)).2)⟩ : _ ∧ _)⟩ : _ ∧ _)
   refine go_skip ?_
   refine hK18 _ _ ?_
   refine q_reg [] [(0, vl), (1, vm), (5, iv (i + 1))] (TT ∧ (InR .i64 (i + 1)) ∧ TT ∧ True) hA H ⟨tv, ⟨by omega, by omega⟩, tv, tv⟩ fun a w24 hA H hG => ?_
   refine ⟨(i + 1), ⟨env_sub _ hA, ⟨_, H⟩, ?_⟩, ?_⟩
   · (try dsimp only); exact ⟨by omega, fun j hj => if e : (j : Int) = i then (by rw [show j = i.toNat by omega]; exact lk_ext hhb21.1 hhb21.2.1 hhb21.2.2) else hok j (by omega)⟩
   (try dsimp only); omega
 have hhb17 := of_decide_eq_false hb17
 refine go_exit 0 ?_
 refine hK9 _ _ ?_
 refine go_seq fun K25 hK25 => ?_
 refine q_reg [] [(4, .bool true)] (TT ∧ True) hA H ⟨tv, tv⟩ fun a w26 hA H hG => ?_
 refine hK25 _ _ ?_
 refine go_ret_ ?_
 refine ret_one 4 (.bool true) hA ?_
 exact ans_b' ((decide_eq_true (eq_of_getDK hhb6 (fun j hj => hok j (by omega)))).symm) H.below
theorem named_any (vl : Value) (l : List (Int × Int × Int)) (id : Int) (w : World) (hL : Rd (· < w.heap.size) w vl l) (hs : l.length ≤ 100000) :
 Calls Try.prog 69 [vl, .int .i64 id].toArray w (Ans (.bool (l.any fun b => decide (b.2.2 = id))) w) := by
 refine enter Try.f69 19 Try.func69 fun a hA => ?_
 replace hA := env_sub [(0, vl), (1, iv id)] hA
 have H := Fr.start (org w)
 refine go_seq fun K1 hK1 => ?_
 refine q_reg [] [(0, vl), (1, iv id)] (TT ∧ True) hA H ⟨tv, tv⟩ fun a w2 hA H hG => ?_
 refine hK1 _ _ ?_
 refine go_seq fun K3 hK3 => ?_
 refine go_seq fun K4 hK4 => ?_
 refine q_reg [] [(0, vl), (1, iv id), (5, iv 0)] (TT ∧ True) hA H ⟨tv, tv⟩ fun a w5 hA H hG => ?_
 refine hK4 _ _ ?_
 refine go_block 0 ?_
 refine go_loop_ (Int) (fun x_ a W => (fun (i : Int) => EnvOk 19 a (keepEnv [(0, vl), (1, iv id), (5, iv i)]) ∧ (∃ S, Fr (org w) W S []) ∧ 0 ≤ i ∧ ∀ j : Nat, (j : Int) < i → ¬ (l.getD j (0, (0, 0))).2.2 = id) x_) (fun x_ => (fun (i : Int) => ((l.length : Int) - i).toNat) x_) (0) ?_ (fun i a w7 hI => ?_)
 · (try dsimp only); exact ⟨env_sub _ hA, ⟨_, H⟩, by omega, fun j hj => by omega⟩
 obtain ⟨hA, ⟨S, H⟩, h0, hok⟩ := hI
 try dsimp only at h0 hok
 refine go_seq fun K8 hK8 => ?_
 refine go_seq fun K9 hK9 => ?_
 refine q_reg [(8, iv (l.length : Int))] [(0, vl), (1, iv id), (5, iv i), (9, .bool (decide (i < (l.length : Int))))] (TT ∧ TT ∧ (LenOk vl (l.length : Int)) ∧ TT ∧ True) hA H ⟨tv, tv, by exact len_ok (H.arg hL), tv, tv⟩ fun a w10 hA H hG => ?_
 refine hK9 _ _ ?_
 refine go_cond hA (.tmp 9) (decide (i < (l.length : Int))) (fun hb11 => ?_) (fun hb11 => ?_)
 · have hhb11 := of_decide_eq_true hb11
   refine go_skip ?_
   refine hK8 _ _ ?_
   refine go_seq fun K12 hK12 => ?_
   refine go_block 1 ?_
   refine go_seq fun K13 hK13 => ?_
   refine q_reg [(16, iv (((l.getD i.toNat (0, (0, 0))).2).2))] [(0, vl), (1, iv id), (5, iv i), (18, .bool (decide (((l.getD i.toNat (0, (0, 0))).2).2 = id)))] (TT ∧ TT ∧ ((Try.prog.info? 113).isSome = true ∧ IdxOk vl i) ∧ (0 < Try.prog.cellsOf 3) ∧ (CellOk (On w10) (hdB vl) (hdO vl + i.toNat * 3 + 2) (.int .i64 (((l.getD i.toNat (0, (0, 0))).2).2))) ∧ TT ∧ TT ∧ True) hA H ⟨tv, tv, ⟨by kernel_rfl, by exact idx_ok (H.arg hL) (by omega) (by omega)⟩, by decide +kernel, by exact cell_flat (i := i) (H.arg hL) (by omega) (by omega) (0, (0, 0)) 2, tv, tv, tv⟩ fun a w14 hA H hG => ?_
   refine hK13 _ _ ?_
   refine go_cond hA (.tmp 18) (decide (((l.getD i.toNat (0, (0, 0))).2).2 = id)) (fun hb15 => ?_) (fun hb15 => ?_)
   · have hhb15 := of_decide_eq_true hb15
     refine go_seq fun K16 hK16 => ?_
     refine q_reg [] [(4, .bool true)] (TT ∧ True) hA H ⟨tv, tv⟩ fun a w17 hA H hG => ?_
     refine hK16 _ _ ?_
     refine go_ret_ ?_
     refine ret_one 4 (.bool true) hA ?_
     exact ans_b' ((any_yes (j := i.toNat) (by omega) hhb15).symm) H.below
   have hhb15 := of_decide_eq_false hb15
   refine go_skip ?_
   refine hK12 _ _ ?_
   refine q_reg [] [(0, vl), (1, iv id), (5, iv (i + 1))] (TT ∧ (InR .i64 (i + 1)) ∧ TT ∧ True) hA H ⟨tv, ⟨by omega, by omega⟩, tv, tv⟩ fun a w18 hA H hG => ?_
   refine ⟨(i + 1), ⟨env_sub _ hA, ⟨_, H⟩, ?_⟩, ?_⟩
   · (try dsimp only); exact ⟨by omega, fun j hj => if e : (j : Int) = i then (by rw [show j = i.toNat by omega]; exact hhb15) else hok j (by omega)⟩
   (try dsimp only); omega
 have hhb11 := of_decide_eq_false hb11
 refine go_exit 0 ?_
 refine hK3 _ _ ?_
 refine go_seq fun K19 hK19 => ?_
 refine q_reg [] [(4, .bool false)] (TT ∧ True) hA H ⟨tv, tv⟩ fun a w20 hA H hG => ?_
 refine hK19 _ _ ?_
 refine go_ret_ ?_
 refine ret_one 4 (.bool false) hA ?_
 exact ans_b' ((any_no (fun j hj => hok j (by omega))).symm) H.below
theorem awakeP_any  (w : World) :
 Calls Try.prog 55 [].toArray w (Ans (.bool true) w) := by
 refine enter Try.f55 30 Try.func55 fun a hA => ?_
 replace hA := env_sub [] hA
 have H := Fr.start (org w)
 refine go_seq fun K1 hK1 => ?_
 refine q_reg [] [] (TT ∧ True) hA H ⟨tv, tv⟩ fun a w2 hA H hG => ?_
 refine hK1 _ _ ?_
 refine go_seq fun K3 hK3 => ?_
 refine region_list ?_
 refine q_list 0 5 [(4, .agg #[.int .i64 0, .int .i64 1, .int .i64 0]), (5, .agg #[.int .i64 1, .int .i64 2, .int .i64 1]), (6, .agg #[.int .i64 2, .int .i64 3, .int .i64 2]), (7, .agg #[.int .i64 3, .int .i64 0, .int .i64 3]), (8, .agg #[.int .i64 0, .int .i64 2, .int .i64 4])] [(4, .agg #[.int .i64 0, .int .i64 1, .int .i64 0]), (5, .agg #[.int .i64 1, .int .i64 2, .int .i64 1]), (6, .agg #[.int .i64 2, .int .i64 3, .int .i64 2]), (7, .agg #[.int .i64 3, .int .i64 0, .int .i64 3]), (8, .agg #[.int .i64 0, .int .i64 2, .int .i64 4])] ((∀ w, (Instr.build 92 #[(0, iv 0), (1, iv 1), (2, iv 0)]).run Try.prog w = .ok (.agg #[.int .i64 0, .int .i64 1, .int .i64 0]) w) ∧ (∀ w, (Instr.build 92 #[(0, iv 1), (1, iv 2), (2, iv 1)]).run Try.prog w = .ok (.agg #[.int .i64 1, .int .i64 2, .int .i64 1]) w) ∧ (∀ w, (Instr.build 92 #[(0, iv 2), (1, iv 3), (2, iv 2)]).run Try.prog w = .ok (.agg #[.int .i64 2, .int .i64 3, .int .i64 2]) w) ∧ (∀ w, (Instr.build 92 #[(0, iv 3), (1, iv 0), (2, iv 3)]).run Try.prog w = .ok (.agg #[.int .i64 3, .int .i64 0, .int .i64 3]) w) ∧ (∀ w, (Instr.build 92 #[(0, iv 0), (1, iv 2), (2, iv 4)]).run Try.prog w = .ok (.agg #[.int .i64 0, .int .i64 2, .int .i64 4]) w) ∧ True) hA H ⟨fun w => by kernel_rfl, fun w => by kernel_rfl, fun w => by kernel_rfl, fun w => by kernel_rfl, fun w => by kernel_rfl, tv⟩ fun a w4 hA H hG => ?_
 refine list_at 5 ?_; refine q_lit 5 9 69 5 #[(0, .tmp 4), (1, .tmp 5), (2, .tmp 6), (3, .tmp 7), (4, .tmp 8)] 92 [(0, .agg #[.int .i64 0, .int .i64 1, .int .i64 0]), (1, .agg #[.int .i64 1, .int .i64 2, .int .i64 1]), (2, .agg #[.int .i64 2, .int .i64 3, .int .i64 2]), (3, .agg #[.int .i64 3, .int .i64 0, .int .i64 3]), (4, .agg #[.int .i64 0, .int .i64 2, .int .i64 4])] [.int .i64 0, .int .i64 1, .int .i64 0, .int .i64 1, .int .i64 2, .int .i64 1, .int .i64 2, .int .i64 3, .int .i64 2, .int .i64 3, .int .i64 0, .int .i64 3, .int .i64 0, .int .i64 2, .int .i64 4] [] hA H fun b5 a w6 H hA hG hge_b5 => ?_
 clear hge_b5
 refine list_at 6 ?_; refine q_call 6 10 65 #[.tmp 9] #[69] [(.slice (some ⟨b5, 0, none⟩) 5 5)] (fun S v_ w' => ∃ sd, v_ = .tuple #[.agg #[.int .i64 0, .int .i64 2, sd], .bool true] ∧ Rd S w' sd ([0, 1] : List Int)) [] hA H (by exact ((first_any (.slice (some ⟨b5, 0, none⟩) 5 5) awL H.at ((H.lit 0 rfl (l := ([(0, (1, 0)), (1, (2, 1)), (2, (3, 2)), (3, (0, 3)), (0, (2, 4))] : List (Int × Int × Int))) (by exact (((((RowRd.single (α := Int × Int × Int) (a := (0, (1, 0))) (by exact ⟨[_], _, rfl, rfl, ⟨[_], _, rfl, rfl, rfl⟩⟩)).append (RowRd.single (α := Int × Int × Int) (a := (1, (2, 1))) (by exact ⟨[_], _, rfl, rfl, ⟨[_], _, rfl, rfl, rfl⟩⟩))).append (RowRd.single (α := Int × Int × Int) (a := (2, (3, 2))) (by exact ⟨[_], _, rfl, rfl, ⟨[_], _, rfl, rfl, rfl⟩⟩))).append (RowRd.single (α := Int × Int × Int) (a := (3, (0, 3))) (by exact ⟨[_], _, rfl, rfl, ⟨[_], _, rfl, rfl, rfl⟩⟩))).append (RowRd.single (α := Int × Int × Int) (a := (0, (2, 4))) (by exact ⟨[_], _, rfl, rfl, ⟨[_], _, rfl, rfl, rfl⟩⟩)))) (n := 5) rfl (by decide))) (by decide) awL_wf).mono fun e w' ⟨v, h1, h2, h3⟩ => ⟨v, h1, aw_giv h2, h3⟩)) fun v7 a w8 S hR9 H hA hG => ?_
 obtain ⟨v7s, rfl, hR9s⟩ := hR9
 replace H := H.ro hR9s
 replace H : Fr _ _ _ [.ro v7s ([0, 1] : List Int), .box b5 92 [.int .i64 0, .int .i64 1, .int .i64 0, .int .i64 1, .int .i64 2, .int .i64 1, .int .i64 2, .int .i64 3, .int .i64 2, .int .i64 3, .int .i64 0, .int .i64 3, .int .i64 0, .int .i64 2, .int .i64 4]] := H
 refine q_list 7 3 [] [(11, .agg #[.int .i64 0, .int .i64 2, v7s]), (12, .bool true)] (TT ∧ TT ∧ TT ∧ True) hA H ⟨tv, tv, tv, tv⟩ fun a w11 hA H hG => ?_
 refine list_at 10 ?_; refine q_alloc 10 1 81 [.int .i64 0, .int .i64 0, (.slice none 0 0)] [(11, .agg #[.int .i64 0, .int .i64 2, v7s]), (12, .bool true)] hA H fun b12 a w13 H hA hG hge_b12 => ?_
 clear hge_b12
 refine list_at 11 ?_; refine q_store 11 81 (.tmp 1) (.tmp 11) 0 b12 (0) 81 [.int .i64 0, .int .i64 0, (.slice none 0 0)] [.int .i64 0, .int .i64 2, v7s] [.int .i64 0, .int .i64 2, v7s] (.agg #[.int .i64 0, .int .i64 2, v7s]) [(1, pv b12), (12, .bool true)] hA H rfl rfl (Nat.le_of_ble_eq_true (by kernel_rfl)) rfl (fun v hv => by simp only [List.mem_cons, List.not_mem_nil, or_false] at hv; rcases hv with rfl | rfl | rfl; exact rfl; exact rfl; exact (rd_one (H.get 1 rfl))) fun a w14 H hA hG => ?_
 replace H : Fr _ _ _ [.box b12 81 [.int .i64 0, .int .i64 2, v7s], .ro v7s ([0, 1] : List Int), .box b5 92 [.int .i64 0, .int .i64 1, .int .i64 0, .int .i64 1, .int .i64 2, .int .i64 1, .int .i64 2, .int .i64 3, .int .i64 2, .int .i64 3, .int .i64 0, .int .i64 3, .int .i64 0, .int .i64 2, .int .i64 4]] := H
 refine q_list 12 1 [] [(1, pv b12), (2, .bool true)] (TT ∧ True) hA H ⟨tv, tv⟩ fun a w15 hA H hG => ?_
 refine list_end ?_
 refine hK3 _ _ ?_
 refine go_seq fun K16 hK16 => ?_
 refine region_list ?_
 refine q_list 0 12 [(16, iv 0), (21, iv 2)] [(1, pv b12), (24, .bool ((decide ((0 : Int) = 0)) && (decide ((2 : Int) = 2))))] (TT ∧ TT ∧ ((true) = true → 0 < Try.prog.cellsOf 3) ∧ ((true) = true → CellOk (On w15) b12 (0 + 0) (.int .i64 0)) ∧ ((true) = true → True) ∧ TT ∧ TT ∧ ((decide ((0 : Int) = 0)) = true → 0 < Try.prog.cellsOf 3) ∧ ((decide ((0 : Int) = 0)) = true → CellOk (On w15) b12 (0 + 1) (.int .i64 2)) ∧ ((decide ((0 : Int) = 0)) = true → True) ∧ TT ∧ TT ∧ True) hA H ⟨tv, tv, fun _ => by decide +kernel, fun _ => by exact box_cell H 0 rfl 0, fun _ => tv, tv, tv, fun _ => by decide +kernel, fun _ => by exact box_cell H 0 rfl 1, fun _ => tv, tv, tv, tv⟩ fun a w17 hA H hG => ?_
 refine q_listK [(24, true)] 12 2 [(26, v7s)] [(24, .bool ((decide ((0 : Int) = 0)) && (decide ((2 : Int) = 2)))), (26, v7s)] ((((((decide ((0 : Int) = 0)) && (decide ((2 : Int) = 2))) = true) ∧ True) ∧ (0 < Try.prog.cellsOf 27)) ∧ (((((decide ((0 : Int) = 0)) && (decide ((2 : Int) = 2))) = true) ∧ True) ∧ (CellOk (On w17) b12 (0 + 2) (v7s))) ∧ True) hA H ⟨⟨⟨(by simp []), tv⟩, by decide +kernel⟩, ⟨⟨(by simp []), tv⟩, by exact box_cell H 0 rfl 2⟩, tv⟩ fun a w18 hA H hG => ?_
 refine list_at 14 ?_; refine op_on [(24, true)] ((((decide ((0 : Int) = 0)) && (decide ((2 : Int) = 2))) = true) ∧ True) hA ⟨(by simp []), tv⟩ ?_; refine q_lit 14 27 27 2 #[(0, .const (.int .i64 0)), (1, .const (.int .i64 1))] 3 [(0, iv 0), (1, iv 1)] [.int .i64 0, .int .i64 1] [(24, .bool ((decide ((0 : Int) = 0)) && (decide ((2 : Int) = 2)))), (26, v7s)] hA H fun b19 a w20 H hA hG hge_b19 => ?_
 clear hge_b19
 refine q_listK [(24, true)] 15 3 [(28, .bool (decide (([0, 1] : List Int) = ([0, 1] : List Int))))] [(0, .bool (decide (([0, 1] : List Int) = ([0, 1] : List Int))))] ((((((decide ((0 : Int) = 0)) && (decide ((2 : Int) = 2))) = true) ∧ True) ∧ (Callable Try.prog 36 ∧ CallOk Try.prog (On w20) 36 [v7s, (.slice (some ⟨b19, 0, none⟩) 2 2)].toArray (.bool (decide (([0, 1] : List Int) = ([0, 1] : List Int)))))) ∧ (TT ∧ (((decide ((0 : Int) = 0)) && (decide ((2 : Int) = 2))) = true)) ∧ (TT ∧ (True)) ∧ True) hA H ⟨⟨⟨(by simp []), tv⟩, ⟨callable_of, callOk_of fun w hw => by exact requal_any v7s (.slice (some ⟨b19, 0, none⟩) 2 2) ([0, 1] : List Int) ([0, 1] : List Int) w (((H.on hw).get 2 rfl)) (((H.on hw).lit 0 rfl (l := ([0, 1] : List Int)) (by exact ((RowRd.single (α := Int) (a := 0) (by exact rfl)).append (RowRd.single (α := Int) (a := 1) (by exact rfl)))) (n := 2) rfl (by decide)))⟩⟩, ⟨tv, (by simp [])⟩, ⟨tv, tv⟩, tv⟩ fun a w21 hA H hG => ?_
 refine list_end ?_
 refine hK16 _ _ ?_
 refine go_ret_ ?_
 refine ret_one 0 (.bool (decide (([0, 1] : List Int) = ([0, 1] : List Int)))) hA ?_
 exact ans_b' (by decide +kernel) H.below
theorem verts_asc (l : List Lk) : Asc (vertsL l) := (compact_sort (endsK l)).1
theorem mem_verts {l : List Lk} {x : Int} : x ∈ vertsL l ↔ x ∈ endsK l := (compact_sort (endsK l)).2 x
theorem verts_rises {l : List Lk} (h : okWh l) : risesP (vertsL l) 1024 := by
 refine rises_iff.2 ⟨verts_asc l, fun x hx => ?_⟩
 obtain ⟨y, hy, hxy⟩ := List.mem_flatMap.1 (mem_verts.1 hx)
 obtain ⟨j, hj, rfl⟩ := List.getElem_of_mem hy
 have h9 := h j hj
 unfold okLk at h9
 rw [List.getD_eq_getElem?_getD, List.getElem?_eq_getElem hj, Option.getD_some] at h9
 simp only [List.mem_cons, List.not_mem_nil, or_false] at hxy
 rcases hxy with e | e <;> omega
theorem hasB_verts {l : List Lk} (h : rightK l = true) (x : Int) : hasB (vertsL l) x = decide (x ∈ vertsL l) := hasB_mem (verts_rises (rk_wh h).1)
theorem pcl_yes {l : List Lk} {x y : Int} (h : ((rightK l = true ∧ ¬ x = y) ∧ x ∈ vertsL l) ∧ y ∈ vertsL l) : pclassesE l x y = classesL l x y := by
 refine pclassesE_ok ?_
 rw [hasB_verts h.1.1.1, hasB_verts h.1.1.1, decide_eq_true_eq, decide_eq_true_eq]
 exact ⟨⟨⟨h.1.1.2, h.1.2⟩, h.2⟩, h.1.1.1⟩
theorem wfL_of {l : List Lk} (h : ∀ b ∈ l, (-9223372036854775808 ≤ b.1 ∧ b.1 ≤ 9223372036854775807) ∧ (-9223372036854775808 ≤ b.2.1 ∧ b.2.1 ≤ 9223372036854775807) ∧ (-9223372036854775808 ≤ b.2.2 ∧ b.2.2 ≤ 9223372036854775807)) : WfL l := by
 intro i h0 h1
 exact h _ (getD_mem (l := l) (i := i.toNat) (d := (0, (0, 0))) (by omega))
theorem len64 {v : Value} {l : List Lk} {w : World} {S : Stab} (h : Rd S w v l) : l.length ≤ 9223372036854775807 := by have := rd_len h; omega
theorem rcut_any (vl : Value) (l : List (Int × Int × Int)) (x y : Int) (sv : Value) (sd : List Int) (id : Int) (o : Orig) (hL : Rd (· < o.w.heap.size) o.w vl l) (hs : l.length ≤ 100000) (hS : Rd (· < o.w.heap.size) o.w sv sd) :
 Calls Try.prog 70 [vl, .agg #[.int .i64 x, .int .i64 y, sv], .int .i64 id].toArray o.w (Giv o (fun S v w' => ∃ a b, v = .tuple #[a, b] ∧ Rd S w' a (offM l sd (l.length : Int) ++ [(x, (y, id))]) ∧ Rd S w' b (restM l sd (l.length : Int) ++ [(x, (y, id))]))) := by
 refine enter Try.f70 53 Try.func70 fun a hA => ?_
 replace hA := env_sub [(0, vl), (1, .agg #[.int .i64 x, .int .i64 y, sv]), (2, iv id)] hA
 have H := Fr.start o
 refine go_seq fun K1 hK1 => ?_
 refine region_list ?_
 refine list_at 0 ?_; refine q_box 0 4 87 (.tmp 1) (.agg #[.int .i64 x, .int .i64 y, sv]) [.int .i64 x, .int .i64 y, sv] [(0, vl), (2, iv id)] hA H fun b2 a w3 H hA hG hge_b2 => ?_
 clear hge_b2
 refine q_list 1 2 [] [(0, vl), (2, iv id), (4, pv b2)] (TT ∧ TT ∧ True) hA H ⟨tv, tv, tv⟩ fun a w4 hA H hG => ?_
 refine list_end ?_
 refine hK1 _ _ ?_
 refine go_seq fun K5 hK5 => ?_
 refine q_reg [] [(0, vl), (2, iv id), (4, pv b2), (8, (.slice none 0 0)), (9, (.slice none 0 0))] (TT ∧ TT ∧ True) hA H ⟨tv, tv, tv⟩ fun a w6 hA H hG => ?_
 refine hK5 _ _ ?_
 refine go_seq fun K7 hK7 => ?_
 refine go_seq fun K8 hK8 => ?_
 refine q_reg [] [(0, vl), (2, iv id), (4, pv b2), (8, (.slice none 0 0)), (9, (.slice none 0 0)), (10, iv 0)] (TT ∧ True) hA H ⟨tv, tv⟩ fun a w9 hA H hG => ?_
 refine hK8 _ _ ?_
 refine go_block 0 ?_
 replace H := H.newRow (α := Int × Int × Int) 113
 replace H := H.newRow (α := Int × Int × Int) 113
 refine go_loop_ (Int × Value × List (Int × Int × Int) × Value × List (Int × Int × Int)) (fun x_ a W => (fun (i : Int) (va : Value) (la : List (Int × Int × Int)) (vb : Value) (lb : List (Int × Int × Int)) => EnvOk 53 a (keepEnv [(0, vl), (2, iv id), (4, pv b2), (8, va), (9, vb), (10, iv i)]) ∧ (∃ S, Fr o W S [.row 113 va la, .row 113 vb lb, .box b2 87 [.int .i64 x, .int .i64 y, sv]]) ∧ 0 ≤ i ∧ i ≤ (l.length : Int) ∧ (la.length : Int) ≤ i ∧ (lb.length : Int) ≤ i ∧ la = offM l sd i ∧ lb = restM l sd i) x_.1 x_.2.1 x_.2.2.1 x_.2.2.2.1 x_.2.2.2.2) (fun x_ => (fun (i : Int) (va : Value) (la : List (Int × Int × Int)) (vb : Value) (lb : List (Int × Int × Int)) => ((l.length : Int) - i).toNat) x_.1 x_.2.1 x_.2.2.1 x_.2.2.2.1 x_.2.2.2.2) (0, .slice none 0 0, [], .slice none 0 0, []) ?_ (fun x_ a w11 hI => ?_)
 · (try dsimp only); exact ⟨env_sub _ hA, ⟨_, H⟩, by omega, by omega, by simp, by simp, rfl, rfl⟩
 obtain ⟨i, va, la, vb, lb⟩ := x_
 obtain ⟨hA, ⟨S, H⟩, h0, h0b, h1, h2, hi, hj⟩ := hI
 try dsimp only at h0 h0b h1 h2 hi hj
 replace H : Fr _ _ _ [.row 113 va la, .row 113 vb lb, .box b2 87 [.int .i64 x, .int .i64 y, sv]] := H
 refine go_seq fun K12 hK12 => ?_
 refine go_seq fun K13 hK13 => ?_
 refine q_reg [(13, iv (l.length : Int))] [(0, vl), (2, iv id), (4, pv b2), (8, va), (9, vb), (10, iv i), (14, .bool (decide (i < (l.length : Int))))] (TT ∧ TT ∧ (LenOk vl (l.length : Int)) ∧ TT ∧ True) hA H ⟨tv, tv, by exact len_ok (H.arg hL), tv, tv⟩ fun a w14 hA H hG => ?_
 refine hK13 _ _ ?_
 refine go_cond hA (.tmp 14) (decide (i < (l.length : Int))) (fun hb15 => ?_) (fun hb15 => ?_)
 · have hhb15 := of_decide_eq_true hb15
   refine go_skip ?_
   refine hK12 _ _ ?_
   refine go_seq fun K16 hK16 => ?_
   refine go_block 1 ?_
   refine go_seq fun K17 hK17 => ?_
   refine q_reg [(18, sv), (20, .bool (decide (i ∈ sd)))] [(0, vl), (2, iv id), (4, pv b2), (8, va), (9, vb), (10, iv i), (20, .bool (decide (i ∈ sd)))] ((0 < Try.prog.cellsOf 27) ∧ (CellOk (On w14) b2 (0 + 2) (sv)) ∧ TT ∧ (Callable Try.prog 24 ∧ CallOk Try.prog (On w14) 24 [sv, .int .i64 i].toArray (.bool (decide (i ∈ sd)))) ∧ True) hA H ⟨by decide +kernel, by exact box_cell H 2 rfl 2, tv, ⟨callable_of, callOk_of fun w hw => by exact in_any sv sd i w (((H.on hw).arg hS))⟩, tv⟩ fun a w18 hA H hG => ?_
   refine hK17 _ _ ?_
   refine go_cond hA (.tmp 20) (decide (i ∈ sd)) (fun hb19 => ?_) (fun hb19 => ?_)
   · have hhb19 := of_decide_eq_true hb19
     refine region_list ?_
     refine q_list 0 5 [(25, .agg #[.int .i64 ((l.getD i.toNat (0, (0, 0))).1), .int .i64 (((l.getD i.toNat (0, (0, 0))).2).1), .int .i64 (((l.getD i.toNat (0, (0, 0))).2).2)])] [(0, vl), (2, iv id), (4, pv b2), (9, vb), (10, iv i), (21, va), (25, .agg #[.int .i64 ((l.getD i.toNat (0, (0, 0))).1), .int .i64 (((l.getD i.toNat (0, (0, 0))).2).1), .int .i64 (((l.getD i.toNat (0, (0, 0))).2).2)])] (TT ∧ TT ∧ TT ∧ ((Try.prog.info? 113).isSome = true ∧ IdxOk vl i) ∧ ((Try.prog.info? 113).isSome = true ∧ RowOk (On w18) (hdB vl) (hdO vl + i.toNat * 3) (Try.prog.cellsOf 113) #[.int .i64 ((l.getD i.toNat (0, (0, 0))).1), .int .i64 (((l.getD i.toNat (0, (0, 0))).2).1), .int .i64 (((l.getD i.toNat (0, (0, 0))).2).2)]) ∧ True) hA H ⟨tv, tv, tv, ⟨by kernel_rfl, by exact idx_ok (H.arg hL) (by omega) (by omega)⟩, ⟨by kernel_rfl, by exact row_flat (i := i) (H.arg hL) (by omega) (by omega) (0, (0, 0))⟩, tv⟩ fun a w20 hA H hG => ?_
     refine list_at 5 ?_; refine q_lit 5 26 66 1 #[(0, .tmp 25)] 113 [(0, .agg #[.int .i64 ((l.getD i.toNat (0, (0, 0))).1), .int .i64 (((l.getD i.toNat (0, (0, 0))).2).1), .int .i64 (((l.getD i.toNat (0, (0, 0))).2).2)])] [.int .i64 ((l.getD i.toNat (0, (0, 0))).1), .int .i64 (((l.getD i.toNat (0, (0, 0))).2).1), .int .i64 (((l.getD i.toNat (0, (0, 0))).2).2)] [(0, vl), (2, iv id), (4, pv b2), (9, vb), (10, iv i), (21, va)] hA H fun b21 a w22 H hA hG hge_b21 => ?_
     clear hge_b21
     refine list_at 6 ?_; refine q_push 6 27 (.tmp 21) (.tmp 26) 1 0 b21 1 1 va la [((l.getD i.toNat (0, (0, 0))).1, (((l.getD i.toNat (0, (0, 0))).2).1, ((l.getD i.toNat (0, (0, 0))).2).2))] [.int .i64 ((l.getD i.toNat (0, (0, 0))).1), .int .i64 (((l.getD i.toNat (0, (0, 0))).2).1), .int .i64 (((l.getD i.toNat (0, (0, 0))).2).2)] [(0, vl), (2, iv id), (4, pv b2), (9, vb), (10, iv i)] hA H Try.E66 rfl rfl (by exact (RowRd.single (α := Int × Int × Int) ⟨[_], _, rfl, rfl, ⟨[_], _, rfl, rfl, rfl⟩⟩)) rfl (by simp only [List.length_cons, List.length_nil, List.length_append]; omega) (by decide) fun v23 a w24 H hA hG => ?_
     replace H : Fr _ _ _ [.row 113 v23 (la ++ [((l.getD i.toNat (0, (0, 0))).1, (((l.getD i.toNat (0, (0, 0))).2).1, ((l.getD i.toNat (0, (0, 0))).2).2))]), .row 113 vb lb, .box b2 87 [.int .i64 x, .int .i64 y, sv]] := H.drop 0
     refine q_list 7 1 [] [(0, vl), (2, iv id), (4, pv b2), (8, v23), (9, vb), (10, iv i)] (TT ∧ True) hA H ⟨tv, tv⟩ fun a w25 hA H hG => ?_
     refine list_end ?_
     refine hK16 _ _ ?_
     refine q_reg [] [(0, vl), (2, iv id), (4, pv b2), (8, v23), (9, vb), (10, iv (i + 1))] (TT ∧ (InR .i64 (i + 1)) ∧ TT ∧ True) hA H ⟨tv, ⟨by omega, by omega⟩, tv, tv⟩ fun a w26 hA H hG => ?_
     refine ⟨(i + 1, v23, la ++ [((l.getD i.toNat (0, (0, 0))).1, (((l.getD i.toNat (0, (0, 0))).2).1, ((l.getD i.toNat (0, (0, 0))).2).2))], vb, lb), ⟨env_sub _ hA, ⟨_, H⟩, ?_⟩, ?_⟩
     · (try dsimp only); exact ⟨by omega, by omega, by (try simp only [List.length_append, List.length_cons, List.length_nil]); omega, by (try simp only [List.length_append, List.length_cons, List.length_nil]); omega, by rw [offM_yes h0 hhb19, ← hi], by rw [restM_yes h0 hhb19, ← hj]⟩
     (try dsimp only); omega
   have hhb19 := of_decide_eq_false hb19
   refine region_list ?_
   refine q_list 0 5 [(32, .agg #[.int .i64 ((l.getD i.toNat (0, (0, 0))).1), .int .i64 (((l.getD i.toNat (0, (0, 0))).2).1), .int .i64 (((l.getD i.toNat (0, (0, 0))).2).2)])] [(0, vl), (2, iv id), (4, pv b2), (8, va), (10, iv i), (28, vb), (32, .agg #[.int .i64 ((l.getD i.toNat (0, (0, 0))).1), .int .i64 (((l.getD i.toNat (0, (0, 0))).2).1), .int .i64 (((l.getD i.toNat (0, (0, 0))).2).2)])] (TT ∧ TT ∧ TT ∧ ((Try.prog.info? 113).isSome = true ∧ IdxOk vl i) ∧ ((Try.prog.info? 113).isSome = true ∧ RowOk (On w18) (hdB vl) (hdO vl + i.toNat * 3) (Try.prog.cellsOf 113) #[.int .i64 ((l.getD i.toNat (0, (0, 0))).1), .int .i64 (((l.getD i.toNat (0, (0, 0))).2).1), .int .i64 (((l.getD i.toNat (0, (0, 0))).2).2)]) ∧ True) hA H ⟨tv, tv, tv, ⟨by kernel_rfl, by exact idx_ok (H.arg hL) (by omega) (by omega)⟩, ⟨by kernel_rfl, by exact row_flat (i := i) (H.arg hL) (by omega) (by omega) (0, (0, 0))⟩, tv⟩ fun a w27 hA H hG => ?_
   refine list_at 5 ?_; refine q_lit 5 33 66 1 #[(0, .tmp 32)] 113 [(0, .agg #[.int .i64 ((l.getD i.toNat (0, (0, 0))).1), .int .i64 (((l.getD i.toNat (0, (0, 0))).2).1), .int .i64 (((l.getD i.toNat (0, (0, 0))).2).2)])] [.int .i64 ((l.getD i.toNat (0, (0, 0))).1), .int .i64 (((l.getD i.toNat (0, (0, 0))).2).1), .int .i64 (((l.getD i.toNat (0, (0, 0))).2).2)] [(0, vl), (2, iv id), (4, pv b2), (8, va), (10, iv i), (28, vb)] hA H fun b28 a w29 H hA hG hge_b28 => ?_
   clear hge_b28
   refine list_at 6 ?_; refine q_push 6 34 (.tmp 28) (.tmp 33) 2 0 b28 1 1 vb lb [((l.getD i.toNat (0, (0, 0))).1, (((l.getD i.toNat (0, (0, 0))).2).1, ((l.getD i.toNat (0, (0, 0))).2).2))] [.int .i64 ((l.getD i.toNat (0, (0, 0))).1), .int .i64 (((l.getD i.toNat (0, (0, 0))).2).1), .int .i64 (((l.getD i.toNat (0, (0, 0))).2).2)] [(0, vl), (2, iv id), (4, pv b2), (8, va), (10, iv i)] hA H Try.E66 rfl rfl (by exact (RowRd.single (α := Int × Int × Int) ⟨[_], _, rfl, rfl, ⟨[_], _, rfl, rfl, rfl⟩⟩)) rfl (by simp only [List.length_cons, List.length_nil, List.length_append]; omega) (by decide) fun v30 a w31 H hA hG => ?_
   replace H : Fr _ _ _ [.row 113 va la, .row 113 v30 (lb ++ [((l.getD i.toNat (0, (0, 0))).1, (((l.getD i.toNat (0, (0, 0))).2).1, ((l.getD i.toNat (0, (0, 0))).2).2))]), .box b2 87 [.int .i64 x, .int .i64 y, sv]] := H.drop 0
   refine q_list 7 1 [] [(0, vl), (2, iv id), (4, pv b2), (8, va), (9, v30), (10, iv i)] (TT ∧ True) hA H ⟨tv, tv⟩ fun a w32 hA H hG => ?_
   refine list_end ?_
   refine hK16 _ _ ?_
   refine q_reg [] [(0, vl), (2, iv id), (4, pv b2), (8, va), (9, v30), (10, iv (i + 1))] (TT ∧ (InR .i64 (i + 1)) ∧ TT ∧ True) hA H ⟨tv, ⟨by omega, by omega⟩, tv, tv⟩ fun a w33 hA H hG => ?_
   refine ⟨(i + 1, va, la, v30, lb ++ [((l.getD i.toNat (0, (0, 0))).1, (((l.getD i.toNat (0, (0, 0))).2).1, ((l.getD i.toNat (0, (0, 0))).2).2))]), ⟨env_sub _ hA, ⟨_, H⟩, ?_⟩, ?_⟩
   · (try dsimp only); exact ⟨by omega, by omega, by (try simp only [List.length_append, List.length_cons, List.length_nil]); omega, by (try simp only [List.length_append, List.length_cons, List.length_nil]); omega, by rw [offM_no h0 hhb19, ← hi], by rw [restM_no h0 hhb19, ← hj]⟩
   (try dsimp only); omega
 have hhb15 := of_decide_eq_false hb15
 refine go_exit 0 ?_
 refine hK7 _ _ ?_
 refine go_seq fun K34 hK34 => ?_
 have H0 := H
 have hM0 := H0.keepsL (va.ownBlock.toList ++ vb.ownBlock.toList) (by intro b_ hb_; simp only [List.mem_append, Option.mem_toList, Option.mem_def] at hb_; rcases hb_ with hb_ | hb_; all_goals first | exact Fr.in_ 0 rfl hb_ | exact Fr.in_ 1 rfl hb_)
 refine region_mix (ButL w14 (va.ownBlock.toList ++ vb.ownBlock.toList)) [0, 1, 2, 3, 4, 5, 6, 7, 8, 9, 10, 11, 12, 13, 14, 15, 16, 17, 18] 20 ?_
 replace H := H.drawn; have hD := ButL.drew w14 (va.ownBlock.toList ++ vb.ownBlock.toList)
 generalize ({ w14 with drawn := w14.drawn + 1 } : World) = w35 at H hD ⊢
 refine m_take (n := 6) [0, 1, 2, 3, 4, 5, 6, 9, 10, 11, 12, 13, 14, 15] #[true, true, true, true, true, true, true, false, false, true, true, true, true, true, true, true, false, false, false, false] [(37, iv x), (39, iv y), (41, .agg #[.int .i64 x, .int .i64 y, .int .i64 id]), (46, iv x), (48, iv y), (50, .agg #[.int .i64 x, .int .i64 y, .int .i64 id])] [(35, va), (41, .agg #[.int .i64 x, .int .i64 y, .int .i64 id]), (44, vb), (50, .agg #[.int .i64 x, .int .i64 y, .int .i64 id])] (TT ∧ (0 < Try.prog.cellsOf 3) ∧ (CellOk (ButL w14 (va.ownBlock.toList ++ vb.ownBlock.toList)) b2 (0 + 0) (.int .i64 x)) ∧ (0 < Try.prog.cellsOf 3) ∧ (CellOk (ButL w14 (va.ownBlock.toList ++ vb.ownBlock.toList)) b2 (0 + 1) (.int .i64 y)) ∧ TT ∧ (∀ w, (Instr.build 113 #[(0, iv x), (1, iv y), (2, iv id)]).run Try.prog w = .ok (.agg #[.int .i64 x, .int .i64 y, .int .i64 id]) w) ∧ TT ∧ (0 < Try.prog.cellsOf 3) ∧ (CellOk (ButL w14 (va.ownBlock.toList ++ vb.ownBlock.toList)) b2 (0 + 0) (.int .i64 x)) ∧ (0 < Try.prog.cellsOf 3) ∧ (CellOk (ButL w14 (va.ownBlock.toList ++ vb.ownBlock.toList)) b2 (0 + 1) (.int .i64 y)) ∧ TT ∧ (∀ w, (Instr.build 113 #[(0, iv x), (1, iv y), (2, iv id)]).run Try.prog w = .ok (.agg #[.int .i64 x, .int .i64 y, .int .i64 id]) w) ∧ True) hA hD ⟨tv, by decide +kernel, by exact box_cellC (box_atL H0 (va.ownBlock.toList ++ vb.ownBlock.toList) 2 rfl (by intro hq; simp only [List.mem_append, Option.mem_toList, Option.mem_def] at hq; rcases hq with hq | hq; all_goals first | exact H0.apart 2 0 (by decide) rfl rfl rfl hq | exact H0.apart 2 1 (by decide) rfl rfl rfl hq)) 0, by decide +kernel, by exact box_cellC (box_atL H0 (va.ownBlock.toList ++ vb.ownBlock.toList) 2 rfl (by intro hq; simp only [List.mem_append, Option.mem_toList, Option.mem_def] at hq; rcases hq with hq | hq; all_goals first | exact H0.apart 2 0 (by decide) rfl rfl rfl hq | exact H0.apart 2 1 (by decide) rfl rfl rfl hq)) 1, tv, fun w => by kernel_rfl, tv, by decide +kernel, by exact box_cellC (box_atL H0 (va.ownBlock.toList ++ vb.ownBlock.toList) 2 rfl (by intro hq; simp only [List.mem_append, Option.mem_toList, Option.mem_def] at hq; rcases hq with hq | hq; all_goals first | exact H0.apart 2 0 (by decide) rfl rfl rfl hq | exact H0.apart 2 1 (by decide) rfl rfl rfl hq)) 0, by decide +kernel, by exact box_cellC (box_atL H0 (va.ownBlock.toList ++ vb.ownBlock.toList) 2 rfl (by intro hq; simp only [List.mem_append, Option.mem_toList, Option.mem_def] at hq; rcases hq with hq | hq; all_goals first | exact H0.apart 2 0 (by decide) rfl rfl rfl hq | exact H0.apart 2 1 (by decide) rfl rfl rfl hq)) 1, tv, fun w => by kernel_rfl, tv⟩ fun a hA => ?_
 refine mix_gen fun M hM => ?_
 have hM52 : ∀ (a : Act) (w59 : World) (S : Stab) (b36 : Nat) (hge_b36 : w14.heap.size ≤ b36) (v40 : Value) (b46 : Nat) (hge_b46 : w14.heap.size ≤ b46) (v50 : Value), EnvOk 53 a (keepEnv [(6, v40), (52, v50)]) → Fr o w59 S [.row 113 v40 (la ++ [(x, (y, id))]), .row 113 v50 (lb ++ [(x, (y, id))]), .box b2 87 [.int .i64 x, .int .i64 y, sv]] → ButL w14 (va.ownBlock.toList ++ vb.ownBlock.toList) w59 → M 1 #[true, true, true, true, true, true, true, true, true, true, true, true, true, true, true, true, true, true, true, false] a w59 := by
   intro a w59 S b36 hge_b36 v40 b46 hge_b46 v50 hA H hD
   refine (hM _ _ _ _).2 ?_
   refine m_one 19 ?_; refine q_one 19 [] [(6, v40), (7, v50)] (TT ∧ True) hA H ⟨tv, tv⟩ fun a w60 H hA hG => ?_
   refine ⟨fun h => absurd h (by decide), ?_⟩
   refine m_end ?_
   refine hK34 _ _ ?_
   refine go_ret_ ?_
   refine ret_two 6 7 v40 v50 hA ?_
   have h9a := (H.give 0 rfl); have h9b := (H.give 1 rfl)
   rw [show i = (l.length : Int) by omega] at hi hj; rw [hi] at h9a; rw [hj] at h9b
   exact ⟨_, rfl, ⟨_, _, rfl, h9a, h9b⟩, H.below⟩
 have hM53 : ∀ (a : Act) (w61 : World) (S : Stab) (b36 : Nat) (hge_b36 : w14.heap.size ≤ b36) (v40 : Value) (b46 : Nat) (hge_b46 : w14.heap.size ≤ b46), EnvOk 53 a (keepEnv [(43, v40), (44, vb), (51, (.slice (some ⟨b46, 0, none⟩) 1 1))]) → Fr o w61 S [.box b46 113 [.int .i64 x, .int .i64 y, .int .i64 id], .row 113 v40 (la ++ [(x, (y, id))]), .row 113 vb lb, .box b2 87 [.int .i64 x, .int .i64 y, sv]] → ButL w14 (va.ownBlock.toList ++ vb.ownBlock.toList) w61 → M 3 #[true, true, true, true, true, true, true, true, true, true, true, true, true, true, true, true, true, false, false, false] a w61 := by
   intro a w61 S b36 hge_b36 v40 b46 hge_b46 hA H hD
   refine (hM _ _ _ _).2 ?_
   refine m_one 17 ?_; refine q_push 17 52 (.tmp 44) (.tmp 51) 2 0 b46 1 1 vb lb [(x, (y, id))] [.int .i64 x, .int .i64 y, .int .i64 id] [(43, v40)] hA H Try.E66 rfl rfl (by exact (RowRd.single (α := Int × Int × Int) ⟨[_], _, rfl, rfl, ⟨[_], _, rfl, rfl, rfl⟩⟩)) rfl (by simp only [List.length_cons, List.length_nil, List.length_append]; omega) (by decide) fun v62 a w63 H hA hG => ?_
   replace H : Fr _ _ _ [.row 113 v40 (la ++ [(x, (y, id))]), .row 113 v62 (lb ++ [(x, (y, id))]), .box b2 87 [.int .i64 x, .int .i64 y, sv]] := H.drop 0
   replace hD := hD.grown hG (fun b_ hb_ => .inl (by simp only [List.mem_append, Option.mem_toList, Option.mem_def]; first | exact .inl hb_ | exact .inr hb_))
   refine ⟨fun _ => hD, ?_⟩
   refine m_take (n := 1) [18] #[true, true, true, true, true, true, true, true, true, true, true, true, true, true, true, true, true, true, true, false] [] [(6, v40), (52, v62)] (TT ∧ True) hA hD ⟨tv, tv⟩ fun a hA => ?_
   exact (hM _ _ _ _).1 (hM52 _ _ _ b36 hge_b36 v40 b46 hge_b46 v62 (env_sub _ hA) H hD)
 have hM54 : ∀ (a : Act) (w64 : World) (S : Stab) (b36 : Nat) (hge_b36 : w14.heap.size ≤ b36) (v40 : Value), EnvOk 53 a (keepEnv [(43, v40), (44, vb), (50, .agg #[.int .i64 x, .int .i64 y, .int .i64 id])]) → Fr o w64 S [.row 113 v40 (la ++ [(x, (y, id))]), .row 113 vb lb, .box b2 87 [.int .i64 x, .int .i64 y, sv]] → ButL w14 (va.ownBlock.toList ++ vb.ownBlock.toList) w64 → M 4 #[true, true, true, true, true, true, true, true, true, true, true, true, true, true, true, true, false, false, false, false] a w64 := by
   intro a w64 S b36 hge_b36 v40 hA H hD
   refine (hM _ _ _ _).2 ?_
   refine m_one 16 ?_; refine q_lit 16 51 66 1 #[(0, .tmp 50)] 113 [(0, .agg #[.int .i64 x, .int .i64 y, .int .i64 id])] [.int .i64 x, .int .i64 y, .int .i64 id] [(43, v40), (44, vb)] hA H fun b65 a w66 H hA hG hge_b65 => ?_
   replace hge_b65 := Nat.le_trans hD.1 hge_b65
   replace hD := hD.below hG
   refine ⟨fun _ => hD, ?_⟩
   exact (hM _ _ _ _).1 (hM53 _ _ _ b36 hge_b36 v40 b65 hge_b65 (env_sub _ hA) H hD)
 have hM55 : ∀ (a : Act) (w67 : World) (S : Stab) (b36 : Nat) (hge_b36 : w14.heap.size ≤ b36) (b42 : Nat) (hge_b42 : w14.heap.size ≤ b42), EnvOk 53 a (keepEnv [(35, va), (42, (.slice (some ⟨b36, 0, none⟩) 1 1)), (44, vb), (51, (.slice (some ⟨b42, 0, none⟩) 1 1))]) → Fr o w67 S [.box b42 113 [.int .i64 x, .int .i64 y, .int .i64 id], .box b36 113 [.int .i64 x, .int .i64 y, .int .i64 id], .row 113 va la, .row 113 vb lb, .box b2 87 [.int .i64 x, .int .i64 y, sv]] → ButL w14 (va.ownBlock.toList ++ vb.ownBlock.toList) w67 → M 4 #[true, true, true, true, true, true, true, true, false, true, true, true, true, true, true, true, true, false, false, false] a w67 := by
   intro a w67 S b36 hge_b36 b42 hge_b42 hA H hD
   refine (hM _ _ _ _).2 ?_
   refine m_one 8 ?_; refine q_push 8 43 (.tmp 35) (.tmp 42) 2 1 b36 1 1 va la [(x, (y, id))] [.int .i64 x, .int .i64 y, .int .i64 id] [(44, vb), (51, (.slice (some ⟨b42, 0, none⟩) 1 1))] hA H Try.E66 rfl rfl (by exact (RowRd.single (α := Int × Int × Int) ⟨[_], _, rfl, rfl, ⟨[_], _, rfl, rfl, rfl⟩⟩)) rfl (by simp only [List.length_cons, List.length_nil, List.length_append]; omega) (by decide) fun v68 a w69 H hA hG => ?_
   replace H : Fr _ _ _ [.box b42 113 [.int .i64 x, .int .i64 y, .int .i64 id], .row 113 v68 (la ++ [(x, (y, id))]), .row 113 vb lb, .box b2 87 [.int .i64 x, .int .i64 y, sv]] := H.drop 1
   replace hD := hD.grown hG (fun b_ hb_ => .inl (by simp only [List.mem_append, Option.mem_toList, Option.mem_def]; first | exact .inl hb_ | exact .inr hb_))
   refine ⟨fun _ => hD, ?_⟩
   exact (hM _ _ _ _).1 (hM53 _ _ _ b36 hge_b36 v68 b42 hge_b42 (env_sub _ hA) H hD)
 have hM56 : ∀ (a : Act) (w70 : World) (S : Stab) (b36 : Nat) (hge_b36 : w14.heap.size ≤ b36), EnvOk 53 a (keepEnv [(35, va), (42, (.slice (some ⟨b36, 0, none⟩) 1 1)), (44, vb), (50, .agg #[.int .i64 x, .int .i64 y, .int .i64 id])]) → Fr o w70 S [.box b36 113 [.int .i64 x, .int .i64 y, .int .i64 id], .row 113 va la, .row 113 vb lb, .box b2 87 [.int .i64 x, .int .i64 y, sv]] → ButL w14 (va.ownBlock.toList ++ vb.ownBlock.toList) w70 → M 5 #[true, true, true, true, true, true, true, true, false, true, true, true, true, true, true, true, false, false, false, false] a w70 := by
   intro a w70 S b36 hge_b36 hA H hD
   refine (hM _ _ _ _).2 ?_
   refine m_many [8, 16] fun i_ hi_ => ?_
   simp only [List.mem_cons, List.not_mem_nil, or_false] at hi_
   rcases hi_ with rfl | rfl
   · skip
     refine q_push 8 43 (.tmp 35) (.tmp 42) 1 0 b36 1 1 va la [(x, (y, id))] [.int .i64 x, .int .i64 y, .int .i64 id] [(44, vb), (50, .agg #[.int .i64 x, .int .i64 y, .int .i64 id])] hA H Try.E66 rfl rfl (by exact (RowRd.single (α := Int × Int × Int) ⟨[_], _, rfl, rfl, ⟨[_], _, rfl, rfl, rfl⟩⟩)) rfl (by simp only [List.length_cons, List.length_nil, List.length_append]; omega) (by decide) fun v71 a w72 H hA hG => ?_
     replace H : Fr _ _ _ [.row 113 v71 (la ++ [(x, (y, id))]), .row 113 vb lb, .box b2 87 [.int .i64 x, .int .i64 y, sv]] := H.drop 0
     replace hD := hD.grown hG (fun b_ hb_ => .inl (by simp only [List.mem_append, Option.mem_toList, Option.mem_def]; first | exact .inl hb_ | exact .inr hb_))
     refine ⟨fun _ => hD, ?_⟩
     exact (hM _ _ _ _).1 (hM54 _ _ _ b36 hge_b36 v71 (env_sub _ hA) H hD)
   skip
   refine q_lit 16 51 66 1 #[(0, .tmp 50)] 113 [(0, .agg #[.int .i64 x, .int .i64 y, .int .i64 id])] [.int .i64 x, .int .i64 y, .int .i64 id] [(35, va), (42, (.slice (some ⟨b36, 0, none⟩) 1 1)), (44, vb)] hA H fun b73 a w74 H hA hG hge_b73 => ?_
   replace hge_b73 := Nat.le_trans hD.1 hge_b73
   replace hD := hD.below hG
   refine ⟨fun _ => hD, ?_⟩
   exact (hM _ _ _ _).1 (hM55 _ _ _ b36 hge_b36 b73 hge_b73 (env_sub _ hA) H hD)
 have hM57 : ∀ (a : Act) (w75 : World) (S : Stab) (b38 : Nat) (hge_b38 : w14.heap.size ≤ b38), EnvOk 53 a (keepEnv [(35, va), (41, .agg #[.int .i64 x, .int .i64 y, .int .i64 id]), (44, vb), (51, (.slice (some ⟨b38, 0, none⟩) 1 1))]) → Fr o w75 S [.box b38 113 [.int .i64 x, .int .i64 y, .int .i64 id], .row 113 va la, .row 113 vb lb, .box b2 87 [.int .i64 x, .int .i64 y, sv]] → ButL w14 (va.ownBlock.toList ++ vb.ownBlock.toList) w75 → M 5 #[true, true, true, true, true, true, true, false, false, true, true, true, true, true, true, true, true, false, false, false] a w75 := by
   intro a w75 S b38 hge_b38 hA H hD
   refine (hM _ _ _ _).2 ?_
   refine m_one 7 ?_; refine q_lit 7 42 66 1 #[(0, .tmp 41)] 113 [(0, .agg #[.int .i64 x, .int .i64 y, .int .i64 id])] [.int .i64 x, .int .i64 y, .int .i64 id] [(35, va), (44, vb), (51, (.slice (some ⟨b38, 0, none⟩) 1 1))] hA H fun b76 a w77 H hA hG hge_b76 => ?_
   replace hge_b76 := Nat.le_trans hD.1 hge_b76
   replace H : Fr _ _ _ [.box b38 113 [.int .i64 x, .int .i64 y, .int .i64 id], .box b76 113 [.int .i64 x, .int .i64 y, .int .i64 id], .row 113 va la, .row 113 vb lb, .box b2 87 [.int .i64 x, .int .i64 y, sv]] := H.sink 1 1
   replace hD := hD.below hG
   refine ⟨fun _ => hD, ?_⟩
   exact (hM _ _ _ _).1 (hM55 _ _ _ b76 hge_b76 b38 hge_b38 (env_sub _ hA) H hD)
 have hM58 : ∀ (a : Act) (w78 : World) (S : Stab), EnvOk 53 a (keepEnv [(35, va), (41, .agg #[.int .i64 x, .int .i64 y, .int .i64 id]), (44, vb), (50, .agg #[.int .i64 x, .int .i64 y, .int .i64 id])]) → Fr o w78 S [.row 113 va la, .row 113 vb lb, .box b2 87 [.int .i64 x, .int .i64 y, sv]] → ButL w14 (va.ownBlock.toList ++ vb.ownBlock.toList) w78 → M 6 #[true, true, true, true, true, true, true, false, false, true, true, true, true, true, true, true, false, false, false, false] a w78 := by
   intro a w78 S  hA H hD
   refine (hM _ _ _ _).2 ?_
   refine m_many [7, 16] fun i_ hi_ => ?_
   simp only [List.mem_cons, List.not_mem_nil, or_false] at hi_
   rcases hi_ with rfl | rfl
   · skip
     refine q_lit 7 42 66 1 #[(0, .tmp 41)] 113 [(0, .agg #[.int .i64 x, .int .i64 y, .int .i64 id])] [.int .i64 x, .int .i64 y, .int .i64 id] [(35, va), (44, vb), (50, .agg #[.int .i64 x, .int .i64 y, .int .i64 id])] hA H fun b79 a w80 H hA hG hge_b79 => ?_
     replace hge_b79 := Nat.le_trans hD.1 hge_b79
     replace hD := hD.below hG
     refine ⟨fun _ => hD, ?_⟩
     exact (hM _ _ _ _).1 (hM56 _ _ _ b79 hge_b79 (env_sub _ hA) H hD)
   skip
   refine q_lit 16 51 66 1 #[(0, .tmp 50)] 113 [(0, .agg #[.int .i64 x, .int .i64 y, .int .i64 id])] [.int .i64 x, .int .i64 y, .int .i64 id] [(35, va), (41, .agg #[.int .i64 x, .int .i64 y, .int .i64 id]), (44, vb)] hA H fun b81 a w82 H hA hG hge_b81 => ?_
   replace hge_b81 := Nat.le_trans hD.1 hge_b81
   replace hD := hD.below hG
   refine ⟨fun _ => hD, ?_⟩
   exact (hM _ _ _ _).1 (hM57 _ _ _ b81 hge_b81 (env_sub _ hA) H hD)
 exact hM58 _ _ _ (env_sub _ hA) H hD
section
variable {l : List Lk} {u v : Int} {c d : List Int}
theorem cls_form (h : c ∈ classesL l u v) : ∃ r, 0 ≤ r ∧ r < (l.length : Int) ∧ clR u v l r = r ∧ c = (upto (l.length : Int)).filter fun j => decide (clR u v l j = r) := by
 unfold classesL groupsR rootsTo at h
 obtain ⟨r, hr, rfl⟩ := List.mem_map.1 h
 obtain ⟨h1, h2⟩ := List.mem_filter.1 hr
 have h1 := mem_upto.1 h1
 exact ⟨r, h1.1, h1.2, of_decide_eq_true h2, rfl⟩
theorem cls_asc (h : c ∈ classesL l u v) : risesP c (l.length : Int) := by
 obtain ⟨r, h0, h1, h2, rfl⟩ := cls_form h
 exact rises_iff.2 ⟨(upto_asc _).sublist List.filter_sublist, fun x hx => mem_upto.1 (List.mem_filter.1 hx).1⟩
theorem cls_uniq (hc : c ∈ classesL l u v) (hd : d ∈ classesL l u v) {x : Int} (h1 : x ∈ c) (h2 : x ∈ d) : c = d := by
 obtain ⟨r, a0, a1, a2, rfl⟩ := cls_form hc
 obtain ⟨s, b0, b1, b2, rfl⟩ := cls_form hd
 have e1 := of_decide_eq_true (List.mem_filter.1 h1).2
 have e2 := of_decide_eq_true (List.mem_filter.1 h2).2
 rw [← e1, ← e2]
theorem cls_of {i : Int} (h0 : 0 ≤ i) (h1 : i < (l.length : Int)) : ∃ c ∈ classesL l u v, i ∈ c := by
 refine ⟨_, List.mem_map.2 ⟨clR u v l i, rootsTo_mem (clR_pos h0) ?_ (clR_idem h0), rfl⟩, List.mem_filter.2 ⟨mem_upto.2 ⟨h0, h1⟩, decide_eq_true rfl⟩⟩
 have := clR_le u v l i; omega
theorem cls_pos (h : 0 < l.length) : 0 < (classesL l u v).length := by
 obtain ⟨c, hc, _⟩ := cls_of (l := l) (u := u) (v := v) (i := 0) (by omega) (by omega)
 exact List.length_pos_of_mem hc
end
theorem right_pos {l : List Lk} (h : rightK l = true) : 0 < l.length := by
 cases l with
 | nil =>
   obtain ⟨h1, h2⟩ := rk_wh h
   rw [rk_ok h1 h2] at h
   exact absurd h (by unfold solidB blocksE blocksL; simp; intros; split <;> simp_all [upto])
 | cons a t => simp
theorem hasB_cls {l : List Lk} {u v i : Int} {c : List Int} (h : c ∈ classesL l u v) : hasB c i = decide (i ∈ c) := hasB_mem (cls_asc h)
theorem off_eq {l : List Lk} {u v : Int} {c : List Int} (h : c ∈ classesL l u v) (i : Int) : offL l c i = offM l c i ∧ restL l c i = restM l c i := by
 unfold offL offM restL restM
 simp only [hasB_cls h, and_self]
section
variable {l : List Lk} {x y id : Int} {sd : List Int}
theorem takes_any (h : ((rightK l = true ∧ ¬ x = y) ∧ x ∈ vertsL l) ∧ y ∈ vertsL l) (hc : sd ∈ classesL l x y) : ((pclassesE l x y).any fun c => decide (c = sd)) = true := by
 rw [pcl_yes h, List.any_eq_true]; exact ⟨sd, hc, decide_eq_true rfl⟩
theorem takes_no (h : ((sd.length : Int) < 2 ∨ (l.length : Int) - (sd.length : Int) < 2 ∨ 0 ≤ id) ∨ (l.any fun b => decide (b.2.2 = id)) = true) : cutOk l x y sd id = false ∧ cutA l x y sd id = [] ∧ cutB l x y sd id = [] := by
 have e : cutOk l x y sd id = false := by
   unfold cutOk willB
   rcases h with h | h
   · rcases h with h | h | h
     · rw [decide_eq_false (show ¬ (2 : Int) ≤ (sd.length : Int) by omega)]; simp
     · rw [decide_eq_false (show ¬ (2 : Int) ≤ (l.length : Int) - (sd.length : Int) by omega)]; simp
     rw [decide_eq_true h]; simp
   rw [h]; simp
 unfold cutA cutB; rw [e]; exact ⟨rfl, rfl, rfl⟩
theorem takes_ok (h : ((rightK l = true ∧ ¬ x = y) ∧ x ∈ vertsL l) ∧ y ∈ vertsL l) (hc : sd ∈ classesL l x y) (h1 : 2 ≤ (sd.length : Int)) (h2 : 2 ≤ (l.length : Int) - (sd.length : Int)) (h3 : id < 0) (h4 : (l.any fun b => decide (b.2.2 = id)) = false) :
   cutOk l x y sd id = true ∧ cutA l x y sd id = offM l sd (l.length : Int) ++ [(x, (y, id))] ∧ cutB l x y sd id = restM l sd (l.length : Int) ++ [(x, (y, id))] := by
 have e : cutOk l x y sd id = true := by
   unfold cutOk willB
   rw [takes_any h hc, h4, decide_eq_true h1, decide_eq_true h2, decide_eq_false (by omega)]; rfl
 unfold cutA cutB; rw [e, (off_eq hc _).1, (off_eq hc _).2]; exact ⟨rfl, rfl, rfl⟩
theorem takes_bad (h : ((rightK l = true ∧ ¬ x = y) ∧ x ∈ vertsL l) ∧ y ∈ vertsL l) (hc : sd ∈ classesL l x y) (h1 : 2 ≤ (sd.length : Int)) : cutOk l x y (sd.drop 1) id = false := by
 have e : ((pclassesE l x y).any fun c => decide (c = sd.drop 1)) = false := by
   rw [pcl_yes h, List.any_eq_false]
   intro c hcc hq
   have hq := of_decide_eq_true hq
   subst hq
   have hlen : (sd.drop 1).length = sd.length - 1 := List.length_drop
   obtain ⟨z, hz⟩ : ∃ z, z ∈ sd.drop 1 := List.exists_mem_of_length_pos (by omega)
   have := cls_uniq hcc hc hz (List.mem_of_mem_drop hz)
   rw [this] at hlen; omega
 unfold cutOk; rw [e]; rfl
end
theorem offL_len (l : List Lk) (sd : List Int) : (offL l sd (l.length : Int)).length ≤ l.length ∧ (restL l sd (l.length : Int)).length ≤ l.length := by
 have h := upto_len (l.length : Int)
 have h1 : ((upto (l.length : Int)).filter fun j => hasB sd j).length ≤ _ := List.length_filter_le _ _
 have h2 : ((upto (l.length : Int)).filter fun j => !hasB sd j).length ≤ _ := List.length_filter_le _ _
 unfold offL restL
 rw [List.length_map, List.length_map]
 omega
theorem cutA_len (l : List Lk) (x y : Int) (sd : List Int) (id : Int) : (cutA l x y sd id).length ≤ l.length + 1 := by
 unfold cutA; split
 · rw [List.length_append]; have := (offL_len l sd).1; simp only [List.length_cons, List.length_nil]; omega
 simp
theorem cutB_len (l : List Lk) (x y : Int) (sd : List Int) (id : Int) : (cutB l x y sd id).length ≤ l.length + 1 := by
 unfold cutB; split
 · rw [List.length_append]; have := (offL_len l sd).2; simp only [List.length_cons, List.length_nil]; omega
 simp
theorem pairTakes_any (vl : Value) (l : List (Int × Int × Int)) (x y q id : Int) (w : World) (hL : Rd (· < w.heap.size) w vl l) (hs : l.length ≤ 9223372036854775807) (hwf : WfL l) (hx : -9223372036854775808 ≤ x ∧ x ≤ 9223372036854775807) (hy : -9223372036854775808 ≤ y ∧ y ≤ 9223372036854775807) (hq : 0 ≤ q ∧ q ≤ 255) (hid : -9223372036854775808 ≤ id ∧ id ≤ 9223372036854775807) :
 Calls Try.prog 16 [vl, .int .i64 x, .int .i64 y, .int .u8 q, .int .i64 id].toArray w (Ans (.bool true) w) := by
 refine enter Try.f16 149 Try.func16 fun a hA => ?_
 replace hA := env_sub [(0, vl), (1, iv x), (2, iv y), (3, .int .u8 q), (4, iv id)] hA
 have H := Fr.start (org w)
 refine go_seq fun K1 hK1 => ?_
 refine q_reg [] [(0, vl), (1, iv x), (2, iv y), (3, .int .u8 q), (4, iv id)] (TT ∧ True) hA H ⟨tv, tv⟩ fun a w2 hA H hG => ?_
 refine hK1 _ _ ?_
 refine go_seq fun K3 hK3 => ?_
 refine go_seq fun K4 hK4 => ?_
 refine region_list ?_
 refine q_list 0 13 [(21, .bool true), (25, iv (l.length : Int)), (30, .bool (rightK l))] [(0, vl), (1, iv x), (2, iv y), (3, .int .u8 q), (4, iv id), (33, .bool ((decide ((16 : Int) < (l.length : Int))) || (!(rightK l))))] ((Callable Try.prog 55 ∧ CallOk Try.prog (On w2) 55 [].toArray (.bool true)) ∧ TT ∧ TT ∧ ((false) = false → True) ∧ ((false) = false → LenOk vl (l.length : Int)) ∧ ((false) = false → True) ∧ TT ∧ TT ∧ ((decide ((16 : Int) < (l.length : Int))) = false → True) ∧ ((decide ((16 : Int) < (l.length : Int))) = false → Callable Try.prog 60 ∧ CallOk Try.prog (On w2) 60 [vl].toArray (.bool (rightK l))) ∧ ((decide ((16 : Int) < (l.length : Int))) = false → True) ∧ TT ∧ TT ∧ True) hA H ⟨⟨callable_of, callOk_of fun w hw => by exact awakeP_any w⟩, tv, tv, fun _ => tv, fun _ => by exact len_ok (H.arg hL), fun _ => tv, tv, tv, fun _ => tv, fun hg0 => by replace hg0 := of_decide_eq_false hg0; exact ⟨callable_of, callOk_of fun w hw => by exact rright14_any vl l w (((H.on hw).arg hL)) (by omega)⟩, fun _ => tv, tv, tv, tv⟩ fun a w5 hA H hG => ?_
 rcases bool_two ((decide ((16 : Int) < (l.length : Int))) || (!(rightK l))) with hb6 | hb6
 · have hhb6 := (oT hb6).imp (fun h => of_decide_eq_true h) (fun h => (nT h))
   refine q_listK [(33, true)] 13 1 [] [(0, vl), (1, iv x), (2, iv y), (3, .int .u8 q), (4, iv id), (33, .bool ((decide ((16 : Int) < (l.length : Int))) || (!(rightK l))))] (((((decide ((16 : Int) < (l.length : Int))) || (!(rightK l))) = true)) ∧ True) hA H ⟨hb6, tv⟩ fun a w7 hA H hG => ?_
   refine list_at 14 ?_; refine op_off [(33, true)] [(0, vl), (1, iv x), (2, iv y), (3, .int .u8 q), (4, iv id), (33, .bool ((decide ((16 : Int) < (l.length : Int))) || (!(rightK l))))] ((((decide ((16 : Int) < (l.length : Int))) || (!(rightK l))) = true)) hA hb6 fun a hA => ?_
   refine q_listK [(33, true)] 15 5 [] [(0, vl), (1, iv x), (2, iv y), (3, .int .u8 q), (4, iv id), (40, .bool true)] (((((decide ((16 : Int) < (l.length : Int))) || (!(rightK l))) = true)) ∧ ((((decide ((16 : Int) < (l.length : Int))) || (!(rightK l))) = true)) ∧ ((((decide ((16 : Int) < (l.length : Int))) || (!(rightK l))) = true)) ∧ (TT ∧ (((decide ((16 : Int) < (l.length : Int))) || (!(rightK l))) = true)) ∧ (TT ∧ (True)) ∧ True) hA H ⟨hb6, hb6, hb6, ⟨tv, hb6⟩, ⟨tv, tv⟩, tv⟩ fun a w8 hA H hG => ?_
   refine q_listK [(33, true), (40, true)] 20 1 [] [(0, vl), (1, iv x), (2, iv y), (3, .int .u8 q), (4, iv id), (40, .bool true)] ((((true) = true)) ∧ True) hA H ⟨rfl, tv⟩ fun a w9 hA H hG => ?_
   refine list_at 21 ?_; refine op_off [(33, true), (40, true)] [(0, vl), (1, iv x), (2, iv y), (3, .int .u8 q), (4, iv id), (40, .bool true)] (((true) = true)) hA rfl fun a hA => ?_
   refine q_listK [(33, true), (40, true)] 22 9 [] [(0, vl), (1, iv x), (2, iv y), (3, .int .u8 q), (4, iv id), (51, .bool (true || (decide (x = y))))] ((((true) = true)) ∧ (((true) = true)) ∧ (((true) = true)) ∧ (TT ∧ ((true) = true)) ∧ (TT ∧ (True)) ∧ (TT ∧ ((true) = false → True)) ∧ (TT ∧ ((true) = false → True)) ∧ (TT ∧ ((true) = false → True)) ∧ (TT ∧ (True)) ∧ True) hA H ⟨rfl, rfl, rfl, ⟨tv, rfl⟩, ⟨tv, tv⟩, ⟨tv, fun _ => tv⟩, ⟨tv, fun _ => tv⟩, ⟨tv, fun _ => tv⟩, ⟨tv, tv⟩, tv⟩ fun a w10 hA H hG => ?_
   refine list_end ?_
   refine hK4 _ _ ?_
   refine go_cond hA (.tmp 51) (true || (decide (x = y))) (fun _ => ?_) (fun h => by simp [] at h)
   refine go_seq fun K12 hK12 => ?_
   refine q_reg [(52, .bool true)] [(10, .bool true)] ((Callable Try.prog 55 ∧ CallOk Try.prog (On w10) 55 [].toArray (.bool true)) ∧ TT ∧ True) hA H ⟨⟨callable_of, callOk_of fun w hw => by exact awakeP_any w⟩, tv, tv⟩ fun a w13 hA H hG => ?_
   refine hK12 _ _ ?_
   refine go_ret_ ?_
   refine ret_one 10 (.bool true) hA ?_
   exact ans_b' rfl H.below
 have hhb6 := (⟨of_decide_eq_false ((oF hb6).1), (nF ((oF hb6).2))⟩ : _ ∧ _)
 refine q_listK [(33, false)] 13 1 [] [(0, vl), (1, iv x), (2, iv y), (3, .int .u8 q), (4, iv id), (33, .bool ((decide ((16 : Int) < (l.length : Int))) || (!(rightK l)))), (34, vl)] ((((((decide ((16 : Int) < (l.length : Int))) || (!(rightK l))) = false) ∧ True) ∧ (True)) ∧ True) hA H ⟨⟨⟨hb6, tv⟩, tv⟩, tv⟩ fun a w14 hA H hG => ?_
 refine list_at 14 ?_; refine op_on [(33, false)] ((((decide ((16 : Int) < (l.length : Int))) || (!(rightK l))) = false) ∧ True) hA ⟨hb6, tv⟩ ?_; refine q_call 14 35 58 #[.tmp 34] #[66] [vl] (fun S v_ w' => Rd S w' v_ (vertsL l)) [(0, vl), (1, iv x), (2, iv y), (3, .int .u8 q), (4, iv id), (33, .bool ((decide ((16 : Int) < (l.length : Int))) || (!(rightK l))))] hA H (by exact rverts_any vl l H.at ((H.arg hL)) (by omega)) fun v15 a w16 S hR17 H hA hG => ?_
 replace H := H.ro hR17
 refine q_listK [(33, false)] 15 5 [(37, .bool (decide (x ∈ (vertsL l))))] [(0, vl), (1, iv x), (2, iv y), (3, .int .u8 q), (4, iv id), (40, .bool (!(decide (x ∈ (vertsL l)))))] ((((((decide ((16 : Int) < (l.length : Int))) || (!(rightK l))) = false) ∧ True) ∧ (True)) ∧ (((((decide ((16 : Int) < (l.length : Int))) || (!(rightK l))) = false) ∧ True) ∧ (Callable Try.prog 24 ∧ CallOk Try.prog (On w16) 24 [v15, .int .i64 x].toArray (.bool (decide (x ∈ (vertsL l)))))) ∧ (((((decide ((16 : Int) < (l.length : Int))) || (!(rightK l))) = false) ∧ True) ∧ (True)) ∧ (TT ∧ (((decide ((16 : Int) < (l.length : Int))) || (!(rightK l))) = false)) ∧ (TT ∧ (True)) ∧ True) hA H ⟨⟨⟨hb6, tv⟩, tv⟩, ⟨⟨hb6, tv⟩, ⟨callable_of, callOk_of fun w hw => by exact in_any v15 (vertsL l) x w (((H.on hw).get 0 rfl))⟩⟩, ⟨⟨hb6, tv⟩, tv⟩, ⟨tv, hb6⟩, ⟨tv, tv⟩, tv⟩ fun a w19 hA H hG => ?_
 rcases bool_two (!(decide (x ∈ (vertsL l)))) with hb20 | hb20
 · have hhb20 := of_decide_eq_false (nT hb20)
   refine q_listK [(33, false), (40, true)] 20 1 [] [(0, vl), (1, iv x), (2, iv y), (3, .int .u8 q), (4, iv id), (40, .bool (!(decide (x ∈ (vertsL l)))))] ((((!(decide (x ∈ (vertsL l)))) = true)) ∧ True) hA H ⟨hb20, tv⟩ fun a w21 hA H hG => ?_
   refine list_at 21 ?_; refine op_off [(33, false), (40, true)] [(0, vl), (1, iv x), (2, iv y), (3, .int .u8 q), (4, iv id), (40, .bool (!(decide (x ∈ (vertsL l)))))] (((!(decide (x ∈ (vertsL l)))) = true)) hA hb20 fun a hA => ?_
   refine q_listK [(33, false), (40, true)] 22 9 [] [(0, vl), (1, iv x), (2, iv y), (3, .int .u8 q), (4, iv id), (51, .bool (true || (decide (x = y))))] ((((!(decide (x ∈ (vertsL l)))) = true)) ∧ (((!(decide (x ∈ (vertsL l)))) = true)) ∧ (((!(decide (x ∈ (vertsL l)))) = true)) ∧ (TT ∧ ((!(decide (x ∈ (vertsL l)))) = true)) ∧ (TT ∧ (True)) ∧ (TT ∧ ((true) = false → True)) ∧ (TT ∧ ((true) = false → True)) ∧ (TT ∧ ((true) = false → True)) ∧ (TT ∧ (True)) ∧ True) hA H ⟨hb20, hb20, hb20, ⟨tv, hb20⟩, ⟨tv, tv⟩, ⟨tv, fun _ => tv⟩, ⟨tv, fun _ => tv⟩, ⟨tv, fun _ => tv⟩, ⟨tv, tv⟩, tv⟩ fun a w22 hA H hG => ?_
   refine list_end ?_
   refine hK4 _ _ ?_
   refine go_cond hA (.tmp 51) (true || (decide (x = y))) (fun _ => ?_) (fun h => by simp [] at h)
   refine go_seq fun K24 hK24 => ?_
   refine q_reg [(52, .bool true)] [(10, .bool true)] ((Callable Try.prog 55 ∧ CallOk Try.prog (On w22) 55 [].toArray (.bool true)) ∧ TT ∧ True) hA H ⟨⟨callable_of, callOk_of fun w hw => by exact awakeP_any w⟩, tv, tv⟩ fun a w25 hA H hG => ?_
   refine hK24 _ _ ?_
   refine go_ret_ ?_
   refine ret_one 10 (.bool true) hA ?_
   exact ans_b' rfl H.below
 have hhb20 := of_decide_eq_true (nF hb20)
 refine q_listK [(33, false), (40, false)] 20 1 [] [(0, vl), (1, iv x), (2, iv y), (3, .int .u8 q), (4, iv id), (40, .bool (!(decide (x ∈ (vertsL l))))), (41, vl)] (((((!(decide (x ∈ (vertsL l)))) = false) ∧ True) ∧ (True)) ∧ True) hA H ⟨⟨⟨hb20, tv⟩, tv⟩, tv⟩ fun a w26 hA H hG => ?_
 refine list_at 21 ?_; refine op_on [(33, false), (40, false)] (((!(decide (x ∈ (vertsL l)))) = false) ∧ True) hA ⟨hb20, tv⟩ ?_; refine q_call 21 42 58 #[.tmp 41] #[66] [vl] (fun S v_ w' => Rd S w' v_ (vertsL l)) [(0, vl), (1, iv x), (2, iv y), (3, .int .u8 q), (4, iv id), (40, .bool (!(decide (x ∈ (vertsL l)))))] hA H (by exact rverts_any vl l H.at ((H.arg hL)) (by omega)) fun v27 a w28 S hR29 H hA hG => ?_
 replace H := H.ro hR29
 refine q_listK [(33, false), (40, false)] 22 9 [(44, .bool (decide (y ∈ (vertsL l))))] [(0, vl), (1, iv x), (2, iv y), (3, .int .u8 q), (4, iv id), (51, .bool ((!(decide (y ∈ (vertsL l)))) || (decide (x = y))))] (((((!(decide (x ∈ (vertsL l)))) = false) ∧ True) ∧ (True)) ∧ ((((!(decide (x ∈ (vertsL l)))) = false) ∧ True) ∧ (Callable Try.prog 24 ∧ CallOk Try.prog (On w28) 24 [v27, .int .i64 y].toArray (.bool (decide (y ∈ (vertsL l)))))) ∧ ((((!(decide (x ∈ (vertsL l)))) = false) ∧ True) ∧ (True)) ∧ (TT ∧ ((!(decide (x ∈ (vertsL l)))) = false)) ∧ (TT ∧ (True)) ∧ (TT ∧ ((!(decide (y ∈ (vertsL l)))) = false → True)) ∧ (TT ∧ ((!(decide (y ∈ (vertsL l)))) = false → True)) ∧ (TT ∧ ((!(decide (y ∈ (vertsL l)))) = false → True)) ∧ (TT ∧ (True)) ∧ True) hA H ⟨⟨⟨hb20, tv⟩, tv⟩, ⟨⟨hb20, tv⟩, ⟨callable_of, callOk_of fun w hw => by exact in_any v27 (vertsL l) y w (((H.on hw).get 0 rfl))⟩⟩, ⟨⟨hb20, tv⟩, tv⟩, ⟨tv, hb20⟩, ⟨tv, tv⟩, ⟨tv, fun _ => tv⟩, ⟨tv, fun _ => tv⟩, ⟨tv, fun _ => tv⟩, ⟨tv, tv⟩, tv⟩ fun a w31 hA H hG => ?_
 refine list_end ?_
 refine hK4 _ _ ?_
 refine go_cond hA (.tmp 51) ((!(decide (y ∈ (vertsL l)))) || (decide (x = y))) (fun hb32 => ?_) (fun hb32 => ?_)
 · have hhb32 := (oT hb32).imp (fun h => of_decide_eq_false (nT h)) (fun h => of_decide_eq_true h)
   refine go_seq fun K33 hK33 => ?_
   refine q_reg [(52, .bool true)] [(10, .bool true)] ((Callable Try.prog 55 ∧ CallOk Try.prog (On w31) 55 [].toArray (.bool true)) ∧ TT ∧ True) hA H ⟨⟨callable_of, callOk_of fun w hw => by exact awakeP_any w⟩, tv, tv⟩ fun a w34 hA H hG => ?_
   refine hK33 _ _ ?_
   refine go_ret_ ?_
   refine ret_one 10 (.bool true) hA ?_
   exact ans_b' rfl H.below
 have hhb32 := (⟨of_decide_eq_true (nF ((oF hb32).1)), of_decide_eq_false ((oF hb32).2)⟩ : _ ∧ _)
 refine go_skip ?_
 refine hK3 _ _ ?_
 refine go_seq fun K35 hK35 => ?_
 have hs2 : l.length ≤ 16 := by omega
 have hk9 : ((rightK l = true ∧ ¬ x = y) ∧ x ∈ vertsL l) ∧ y ∈ vertsL l := ⟨⟨⟨hhb6.2, hhb32.2⟩, hhb20⟩, hhb32.1⟩
 have hcp := cls_pos (u := x) (v := y) (right_pos hk9.1.1.1)
 have hcl := classes_len l x y
 have hm1 := Int.emod_nonneg q (b := ((classesL l x y).length : Int)) (by omega)
 have hm2 := Int.emod_lt_of_pos q (b := ((classesL l x y).length : Int)) (by omega)
 refine region_list ?_
 refine q_list 0 3 [] [(0, vl), (1, iv x), (2, iv y), (3, .int .u8 q), (4, iv id), (53, vl), (54, iv x), (55, iv y)] (TT ∧ TT ∧ TT ∧ True) hA H ⟨tv, tv, tv, tv⟩ fun a w36 hA H hG => ?_
 refine list_at 3 ?_; refine q_call 3 56 63 #[.tmp 53, .tmp 54, .tmp 55] #[66, 3, 3] [vl, .int .i64 x, .int .i64 y] (fun S v_ w' => Rd S w' v_ ((classesL l x y))) [(0, vl), (1, iv x), (2, iv y), (3, .int .u8 q), (4, iv id)] hA H (by exact rclasses_any vl l x y H.at ((H.arg hL)) (by omega) (by omega) (by omega)) fun v37 a w38 S hR39 H hA hG => ?_
 replace H := H.ro hR39
 refine q_list 4 1 [] [(0, vl), (1, iv x), (2, iv y), (3, .int .u8 q), (4, iv id), (11, v37)] (TT ∧ True) hA H ⟨tv, tv⟩ fun a w41 hA H hG => ?_
 refine list_end ?_
 refine hK35 _ _ ?_
 refine go_seq fun K42 hK42 => ?_
 obtain ⟨eu43, heu43c, heu43r⟩ := cell_sliceC (C := On w41) H.keepsS (H.getS 0 rfl) (q % ((classesL l x y).length : Int))
 replace H := (H.ro (heu43r (by omega) (by omega))).sink 1 3
 replace H : Fr _ _ _ [.ro v37 (classesL l x y), .ro v27 (vertsL l), .ro v15 (vertsL l), .ro eu43 ((classesL l x y).getD (q % ((classesL l x y).length : Int)).toNat [])] := H
 refine q_reg [(61, iv ((classesL l x y).length : Int)), (64, eu43)] [(0, vl), (1, iv x), (2, iv y), (4, iv id), (12, eu43)] (TT ∧ TT ∧ (InR .i64 q) ∧ TT ∧ (LenOk v37 ((classesL l x y).length : Int)) ∧ (0 ≤ q ∧ 0 < ((classesL l x y).length : Int)) ∧ ((Try.prog.info? 27).isSome = true ∧ IdxOk v37 (q % ((classesL l x y).length : Int))) ∧ (CellOk (On w41) (hdB v37) (hdO v37 + (q % ((classesL l x y).length : Int)).toNat * 1) (eu43)) ∧ TT ∧ True) hA H ⟨tv, tv, ⟨by omega, by omega⟩, tv, by exact len_ok (H.get 0 rfl), ⟨by omega, by omega⟩, ⟨by kernel_rfl, by exact idx_ok (H.get 0 rfl) (by omega) (by omega)⟩, by exact heu43c (by omega) (by omega), tv, tv⟩ fun a w44 hA H hG => ?_
 refine hK42 _ _ ?_
 refine go_seq fun K45 hK45 => ?_
 have hsd := getD_mem (l := classesL l x y) (i := (q % ((classesL l x y).length : Int)).toNat) (d := []) (by omega)
 have hsl := class_len hsd
 refine region_list ?_
 refine q_list 0 1 [] [(0, vl), (1, iv x), (2, iv y), (4, iv id), (12, eu43), (66, vl)] (TT ∧ True) hA H ⟨tv, tv⟩ fun a w46 hA H hG => ?_
 refine list_at 1 ?_; refine q_call 1 67 57 #[.tmp 66] #[66] [vl] (fun S v_ w' => Rd S w' v_ (l)) [(0, vl), (1, iv x), (2, iv y), (4, iv id), (12, eu43)] hA H (by exact of_any vl l H.at ((H.arg hL)) (by omega)) fun v47 a w48 S hR49 H hA hG => ?_
 replace H := H.ro hR49
 refine q_list 2 5 [(71, .agg #[.int .i64 x, .int .i64 y, eu43])] [(0, vl), (1, iv x), (2, iv y), (4, iv id), (12, eu43), (67, v47), (71, .agg #[.int .i64 x, .int .i64 y, eu43]), (72, iv id)] (TT ∧ TT ∧ TT ∧ (∀ w, (Instr.build 81 #[(0, iv x), (1, iv y), (2, eu43)]).run Try.prog w = .ok (.agg #[.int .i64 x, .int .i64 y, eu43]) w) ∧ TT ∧ True) hA H ⟨tv, tv, tv, fun w => by obtain ⟨_, _, _, e0⟩ := rd_form (H.get 4 rfl); rw [e0]; kernel_rfl, tv, tv⟩ fun a w51 hA H hG => ?_
 refine list_at 7 ?_; refine q_call 7 73 68 #[.tmp 67, .tmp 71, .tmp 72] #[69, 81, 3] [v47, .agg #[.int .i64 x, .int .i64 y, eu43], .int .i64 id] _ [(0, vl), (1, iv x), (2, iv y), (4, iv id), (12, eu43)] hA H (by exact cut_any v47 l x y eu43 ((classesL l x y).getD (q % ((classesL l x y).length : Int)).toNat []) id H.at ((H.get 0 rfl)) (by omega) ((H.get 4 rfl)) (by (try rw [List.length_drop]); omega) hwf (by omega) (by omega) (by omega)) fun v52 a w53 S hR54 H hA hG => ?_
 obtain ⟨v520, v521, rfl, hR540, hR541⟩ := hR54
 replace H := H.ro hR540; replace H := H.ro hR541
 replace H : Fr _ _ _ [.ro v521 (cutB l x y ((classesL l x y).getD (q % ((classesL l x y).length : Int)).toNat []) id), .ro v520 (cutA l x y ((classesL l x y).getD (q % ((classesL l x y).length : Int)).toNat []) id), .ro v47 l, .ro v37 (classesL l x y), .ro v27 (vertsL l), .ro v15 (vertsL l), .ro eu43 ((classesL l x y).getD (q % ((classesL l x y).length : Int)).toNat [])] := H
 refine q_list 8 7 [] [(0, vl), (1, iv x), (2, iv y), (4, iv id), (12, eu43), (13, v520), (14, v521), (15, .bool (cutOk l x y ((classesL l x y).getD (q % ((classesL l x y).length : Int)).toNat []) id))] (TT ∧ TT ∧ TT ∧ TT ∧ TT ∧ TT ∧ TT ∧ True) hA H ⟨tv, tv, tv, tv, tv, tv, tv, tv⟩ fun a w57 hA H hG => ?_
 refine list_end ?_
 refine hK45 _ _ ?_
 refine go_seq fun K58 hK58 => ?_
 refine go_seq fun K59 hK59 => ?_
 refine q_reg [(78, iv (((classesL l x y).getD (q % ((classesL l x y).length : Int)).toNat []).length : Int)), (82, iv (l.length : Int)), (84, iv (((classesL l x y).getD (q % ((classesL l x y).length : Int)).toNat []).length : Int)), (95, .bool (l.any fun b => decide (b.2.2 = id)))] [(0, vl), (1, iv x), (2, iv y), (4, iv id), (12, eu43), (13, v520), (14, v521), (15, .bool (cutOk l x y ((classesL l x y).getD (q % ((classesL l x y).length : Int)).toNat []) id)), (96, .bool ((((decide ((((classesL l x y).getD (q % ((classesL l x y).length : Int)).toNat []).length : Int) < 2)) || (decide ((l.length : Int) - (((classesL l x y).getD (q % ((classesL l x y).length : Int)).toNat []).length : Int) < 2))) || (decide ((0 : Int) ≤ id))) || (l.any fun b => decide (b.2.2 = id))))] (TT ∧ (LenOk eu43 (((classesL l x y).getD (q % ((classesL l x y).length : Int)).toNat []).length : Int)) ∧ TT ∧ TT ∧ ((decide ((((classesL l x y).getD (q % ((classesL l x y).length : Int)).toNat []).length : Int) < 2)) = false → True) ∧ ((decide ((((classesL l x y).getD (q % ((classesL l x y).length : Int)).toNat []).length : Int) < 2)) = false → LenOk vl (l.length : Int)) ∧ ((decide ((((classesL l x y).getD (q % ((classesL l x y).length : Int)).toNat []).length : Int) < 2)) = false → True) ∧ ((decide ((((classesL l x y).getD (q % ((classesL l x y).length : Int)).toNat []).length : Int) < 2)) = false → LenOk eu43 (((classesL l x y).getD (q % ((classesL l x y).length : Int)).toNat []).length : Int)) ∧ ((decide ((((classesL l x y).getD (q % ((classesL l x y).length : Int)).toNat []).length : Int) < 2)) = false → InR .i64 ((l.length : Int) - (((classesL l x y).getD (q % ((classesL l x y).length : Int)).toNat []).length : Int))) ∧ ((decide ((((classesL l x y).getD (q % ((classesL l x y).length : Int)).toNat []).length : Int) < 2)) = false → True) ∧ TT ∧ TT ∧ (((decide ((((classesL l x y).getD (q % ((classesL l x y).length : Int)).toNat []).length : Int) < 2)) || (decide ((l.length : Int) - (((classesL l x y).getD (q % ((classesL l x y).length : Int)).toNat []).length : Int) < 2))) = false → True) ∧ (((decide ((((classesL l x y).getD (q % ((classesL l x y).length : Int)).toNat []).length : Int) < 2)) || (decide ((l.length : Int) - (((classesL l x y).getD (q % ((classesL l x y).length : Int)).toNat []).length : Int) < 2))) = false → True) ∧ TT ∧ TT ∧ ((((decide ((((classesL l x y).getD (q % ((classesL l x y).length : Int)).toNat []).length : Int) < 2)) || (decide ((l.length : Int) - (((classesL l x y).getD (q % ((classesL l x y).length : Int)).toNat []).length : Int) < 2))) || (decide ((0 : Int) ≤ id))) = false → True) ∧ ((((decide ((((classesL l x y).getD (q % ((classesL l x y).length : Int)).toNat []).length : Int) < 2)) || (decide ((l.length : Int) - (((classesL l x y).getD (q % ((classesL l x y).length : Int)).toNat []).length : Int) < 2))) || (decide ((0 : Int) ≤ id))) = false → True) ∧ ((((decide ((((classesL l x y).getD (q % ((classesL l x y).length : Int)).toNat []).length : Int) < 2)) || (decide ((l.length : Int) - (((classesL l x y).getD (q % ((classesL l x y).length : Int)).toNat []).length : Int) < 2))) || (decide ((0 : Int) ≤ id))) = false → Callable Try.prog 69 ∧ CallOk Try.prog (On w57) 69 [vl, .int .i64 id].toArray (.bool (l.any fun b => decide (b.2.2 = id)))) ∧ TT ∧ True) hA H ⟨tv, by exact len_ok (H.get 6 rfl), tv, tv, fun _ => tv, fun _ => by exact len_ok (H.arg hL), fun _ => tv, fun _ => by exact len_ok (H.get 6 rfl), fun hg0 => by replace hg0 := of_decide_eq_false hg0; exact ⟨by omega, by omega⟩, fun _ => tv, tv, tv, fun _ => tv, fun _ => tv, tv, tv, fun _ => tv, fun _ => tv, fun hg0 => by replace hg0 := (⟨(⟨of_decide_eq_false ((oF ((oF hg0).1)).1), of_decide_eq_false ((oF ((oF hg0).1)).2)⟩ : _ ∧ _), of_decide_eq_false ((oF hg0).2)⟩ : _ ∧ _); exact ⟨callable_of, callOk_of fun w hw => by exact named_any vl l id w (((H.on hw).arg hL)) (by omega)⟩, tv, tv⟩ fun a w60 hA H hG => ?_
 refine hK59 _ _ ?_
 refine go_cond hA (.tmp 96) ((((decide ((((classesL l x y).getD (q % ((classesL l x y).length : Int)).toNat []).length : Int) < 2)) || (decide ((l.length : Int) - (((classesL l x y).getD (q % ((classesL l x y).length : Int)).toNat []).length : Int) < 2))) || (decide ((0 : Int) ≤ id))) || (l.any fun b => decide (b.2.2 = id))) (fun hb61 => ?_) (fun hb61 => ?_)
 · have hhb61 := (oT hb61).imp (fun h => (oT h).imp (fun h => (oT h).imp (fun h => of_decide_eq_true h) (fun h => of_decide_eq_true h)) (fun h => of_decide_eq_true h)) (fun h => h)
   refine go_seq fun K62 hK62 => ?_
   obtain ⟨hno1, hno2, hno3⟩ := takes_no (x := x) (y := y) (sd := ((classesL l x y).getD (q % ((classesL l x y).length : Int)).toNat [])) (id := id) (l := l) (by rcases hhb61 with ((h | h) | h) | h; all_goals first | exact .inr h | exact .inl (by omega))
   have hno9 := And.intro hno1 (And.intro hno2 hno3)
   refine q_reg [(101, iv ((cutA l x y ((classesL l x y).getD (q % ((classesL l x y).length : Int)).toNat []) id).length : Int)), (106, iv ((cutB l x y ((classesL l x y).getD (q % ((classesL l x y).length : Int)).toNat []) id).length : Int))] [(10, .bool (((!(cutOk l x y ((classesL l x y).getD (q % ((classesL l x y).length : Int)).toNat []) id)) && (decide (((cutA l x y ((classesL l x y).getD (q % ((classesL l x y).length : Int)).toNat []) id).length : Int) = 0))) && (decide (((cutB l x y ((classesL l x y).getD (q % ((classesL l x y).length : Int)).toNat []) id).length : Int) = 0))))] (TT ∧ TT ∧ TT ∧ ((!(cutOk l x y ((classesL l x y).getD (q % ((classesL l x y).length : Int)).toNat []) id)) = true → True) ∧ ((!(cutOk l x y ((classesL l x y).getD (q % ((classesL l x y).length : Int)).toNat []) id)) = true → LenOk v520 ((cutA l x y ((classesL l x y).getD (q % ((classesL l x y).length : Int)).toNat []) id).length : Int)) ∧ ((!(cutOk l x y ((classesL l x y).getD (q % ((classesL l x y).length : Int)).toNat []) id)) = true → True) ∧ TT ∧ TT ∧ (((!(cutOk l x y ((classesL l x y).getD (q % ((classesL l x y).length : Int)).toNat []) id)) && (decide (((cutA l x y ((classesL l x y).getD (q % ((classesL l x y).length : Int)).toNat []) id).length : Int) = 0))) = true → True) ∧ (((!(cutOk l x y ((classesL l x y).getD (q % ((classesL l x y).length : Int)).toNat []) id)) && (decide (((cutA l x y ((classesL l x y).getD (q % ((classesL l x y).length : Int)).toNat []) id).length : Int) = 0))) = true → LenOk v521 ((cutB l x y ((classesL l x y).getD (q % ((classesL l x y).length : Int)).toNat []) id).length : Int)) ∧ (((!(cutOk l x y ((classesL l x y).getD (q % ((classesL l x y).length : Int)).toNat []) id)) && (decide (((cutA l x y ((classesL l x y).getD (q % ((classesL l x y).length : Int)).toNat []) id).length : Int) = 0))) = true → True) ∧ TT ∧ TT ∧ True) hA H ⟨tv, tv, tv, fun _ => tv, fun _ => by exact len_ok (H.get 1 rfl), fun _ => tv, tv, tv, fun _ => tv, fun _ => by exact len_ok (H.get 0 rfl), fun _ => tv, tv, tv, tv⟩ fun a w63 hA H hG => ?_
   refine hK62 _ _ ?_
   refine go_ret_ ?_
   refine ret_one 10 (.bool (((!(cutOk l x y ((classesL l x y).getD (q % ((classesL l x y).length : Int)).toNat []) id)) && (decide (((cutA l x y ((classesL l x y).getD (q % ((classesL l x y).length : Int)).toNat []) id).length : Int) = 0))) && (decide (((cutB l x y ((classesL l x y).getD (q % ((classesL l x y).length : Int)).toNat []) id).length : Int) = 0)))) hA ?_
   exact ans_b' (by rw [hno1, hno2, hno3]; rfl) H.below
 have hhb61 := (⟨(⟨(⟨of_decide_eq_false ((oF ((oF ((oF hb61).1)).1)).1), of_decide_eq_false ((oF ((oF ((oF hb61).1)).1)).2)⟩ : _ ∧ _), of_decide_eq_false ((oF ((oF hb61).1)).2)⟩ : _ ∧ _), (oF hb61).2⟩ : _ ∧ _)
 refine go_skip ?_
 refine hK58 _ _ ?_
 refine go_seq fun K64 hK64 => ?_
 obtain ⟨hn1, hn2, hn3⟩ : (2 ≤ (((classesL l x y).getD (q % ((classesL l x y).length : Int)).toNat []).length : Int) ∧ 2 ≤ (l.length : Int) - (((classesL l x y).getD (q % ((classesL l x y).length : Int)).toNat []).length : Int)) ∧ id < 0 ∧ (l.any fun b => decide (b.2.2 = id)) = false := ⟨⟨by have := hhb61; omega, by have := hhb61; omega⟩, by have := hhb61; omega, hhb61.2⟩
 obtain ⟨ht1, ht2, ht3⟩ := takes_ok hk9 hsd hn1.1 hn1.2 hn2 hn3
 have ht4 := takes_bad (id := id) hk9 hsd hn1.1
 have hcl1 := cutA_len l x y ((classesL l x y).getD (q % ((classesL l x y).length : Int)).toNat []) id; have hcl2 := cutB_len l x y ((classesL l x y).getD (q % ((classesL l x y).length : Int)).toNat []) id
 refine region_list ?_
 refine q_list 0 6 [(114, .agg #[.int .i64 x, .int .i64 y, eu43])] [(0, vl), (1, iv x), (2, iv y), (4, iv id), (12, eu43), (13, v520), (14, v521), (15, .bool (cutOk l x y ((classesL l x y).getD (q % ((classesL l x y).length : Int)).toNat []) id)), (110, vl), (114, .agg #[.int .i64 x, .int .i64 y, eu43]), (115, iv id)] (TT ∧ TT ∧ TT ∧ TT ∧ (∀ w, (Instr.build 87 #[(0, iv x), (1, iv y), (2, eu43)]).run Try.prog w = .ok (.agg #[.int .i64 x, .int .i64 y, eu43]) w) ∧ TT ∧ True) hA H ⟨tv, tv, tv, tv, fun w => by obtain ⟨_, _, _, e0⟩ := rd_form (H.get 6 rfl); rw [e0]; kernel_rfl, tv, tv⟩ fun a w65 hA H hG => ?_
 refine list_at 6 ?_; refine q_call 6 116 70 #[.tmp 110, .tmp 114, .tmp 115] #[66, 87, 3] [vl, .agg #[.int .i64 x, .int .i64 y, eu43], .int .i64 id] _ [(0, vl), (1, iv x), (2, iv y), (4, iv id), (12, eu43), (13, v520), (14, v521), (15, .bool (cutOk l x y ((classesL l x y).getD (q % ((classesL l x y).length : Int)).toNat []) id))] hA H (by exact rcut_any vl l x y eu43 ((classesL l x y).getD (q % ((classesL l x y).length : Int)).toNat []) id H.at ((H.arg hL)) (by omega) ((H.get 6 rfl))) fun v66 a w67 S hR68 H hA hG => ?_
 obtain ⟨v660, v661, rfl, hR680, hR681⟩ := hR68
 replace H := H.ro hR680; replace H := H.ro hR681
 replace H : Fr _ _ _ [.ro v661 (restM l ((classesL l x y).getD (q % ((classesL l x y).length : Int)).toNat []) (l.length : Int) ++ [(x, (y, id))]), .ro v660 (offM l ((classesL l x y).getD (q % ((classesL l x y).length : Int)).toNat []) (l.length : Int) ++ [(x, (y, id))]), .ro v521 (cutB l x y ((classesL l x y).getD (q % ((classesL l x y).length : Int)).toNat []) id), .ro v520 (cutA l x y ((classesL l x y).getD (q % ((classesL l x y).length : Int)).toNat []) id), .ro v47 l, .ro v37 (classesL l x y), .ro v27 (vertsL l), .ro v15 (vertsL l), .ro eu43 ((classesL l x y).getD (q % ((classesL l x y).length : Int)).toNat [])] := H
 refine q_list 7 5 [] [(0, vl), (1, iv x), (2, iv y), (4, iv id), (12, eu43), (13, v520), (14, v521), (15, .bool (cutOk l x y ((classesL l x y).getD (q % ((classesL l x y).length : Int)).toNat []) id)), (16, v660), (17, v661)] (TT ∧ TT ∧ TT ∧ TT ∧ TT ∧ True) hA H ⟨tv, tv, tv, tv, tv, tv⟩ fun a w71 hA H hG => ?_
 refine list_end ?_
 refine hK64 _ _ ?_
 refine go_seq fun K72 hK72 => ?_
 have H0 := H
 have hM0 := H0.keeps none (.inl rfl)
 refine region_mix (But w71 none) [0, 1, 2, 3, 4, 5, 6, 7, 8, 9, 10, 11, 12, 13, 14] 16 ?_
 replace H := H.drawn; have hD := But.drew w71 none
 generalize ({ w71 with drawn := w71.drawn + 1 } : World) = w73 at H hD ⊢
 obtain ⟨u74, _, hu74c, hu74r⟩ := reslice (P := Try.prog) (H0.getS 8 rfl) 1 ((classesL l x y).getD (q % ((classesL l x y).length : Int)).toNat []).length (by omega) (by omega) 27 Try.underlying27 (by kernel_rfl) (by kernel_rfl)
 rw [List.take_of_length_le (by rw [List.length_drop]; omega)] at hu74r
 replace H := (H.ro (Rd.keep (keepsS2 hM0 _ hD) hu74r)).sink 1 9
 replace H : Fr _ _ _ [.ro v661 (restM l ((classesL l x y).getD (q % ((classesL l x y).length : Int)).toNat []) (l.length : Int) ++ [(x, (y, id))]), .ro v660 (offM l ((classesL l x y).getD (q % ((classesL l x y).length : Int)).toNat []) (l.length : Int) ++ [(x, (y, id))]), .ro v521 (cutB l x y ((classesL l x y).getD (q % ((classesL l x y).length : Int)).toNat []) id), .ro v520 (cutA l x y ((classesL l x y).getD (q % ((classesL l x y).length : Int)).toNat []) id), .ro v47 l, .ro v37 (classesL l x y), .ro v27 (vertsL l), .ro v15 (vertsL l), .ro eu43 ((classesL l x y).getD (q % ((classesL l x y).length : Int)).toNat []), .ro u74 (((classesL l x y).getD (q % ((classesL l x y).length : Int)).toNat []).drop 1)] := H
 refine m_take (n := 9) [0, 2, 3, 4, 5, 6, 7] #[true, false, true, true, true, true, true, true, false, false, false, false, false, false, false, false] [(125, u74), (126, .agg #[.int .i64 x, .int .i64 y, u74])] [(13, v520), (14, v521), (15, .bool (cutOk l x y ((classesL l x y).getD (q % ((classesL l x y).length : Int)).toNat []) id)), (16, v660), (17, v661), (120, vl), (126, .agg #[.int .i64 x, .int .i64 y, u74]), (127, iv id)] (TT ∧ TT ∧ TT ∧ TT ∧ (∀ w, (Instr.sliceAt 27 eu43 (some (.int .i64 1)) none none).run Try.prog w = .ok u74 w) ∧ (∀ w, (Instr.build 81 #[(0, iv x), (1, iv y), (2, u74)]).run Try.prog w = .ok (.agg #[.int .i64 x, .int .i64 y, u74]) w) ∧ TT ∧ True) hA hD ⟨tv, tv, tv, tv, fun w => by exact hu74c rfl .i64 w, fun w => by obtain ⟨_, _, _, e0⟩ := rd_form (H.get 9 rfl); rw [e0]; kernel_rfl, tv, tv⟩ fun a hA => ?_
 refine m_one 1 ?_; refine q_call 1 121 57 #[.tmp 120] #[66] [vl] (fun S v_ w' => Rd S w' v_ (l)) [(13, v520), (14, v521), (15, .bool (cutOk l x y ((classesL l x y).getD (q % ((classesL l x y).length : Int)).toNat []) id)), (16, v660), (17, v661), (126, .agg #[.int .i64 x, .int .i64 y, u74]), (127, iv id)] hA H (by exact of_any vl l H.at ((H.arg hL)) (by omega)) fun v75 a w76 S hR77 H hA hG => ?_
 replace H := H.ro hR77
 replace hD := hD.below hG
 refine ⟨fun _ => hD, ?_⟩
 refine m_one 8 ?_; refine q_call 8 128 68 #[.tmp 121, .tmp 126, .tmp 127] #[69, 81, 3] [v75, .agg #[.int .i64 x, .int .i64 y, u74], .int .i64 id] _ [(13, v520), (14, v521), (15, .bool (cutOk l x y ((classesL l x y).getD (q % ((classesL l x y).length : Int)).toNat []) id)), (16, v660), (17, v661)] hA H (by exact cut_any v75 l x y u74 (((classesL l x y).getD (q % ((classesL l x y).length : Int)).toNat []).drop 1) id H.at ((H.get 0 rfl)) (by omega) ((H.get 10 rfl)) (by (try rw [List.length_drop]); omega) hwf (by omega) (by omega) (by omega)) fun v79 a w80 S hR81 H hA hG => ?_
 obtain ⟨v790, v791, rfl, hR810, hR811⟩ := hR81
 replace H := H.ro hR810; replace H := H.ro hR811
 replace H : Fr _ _ _ [.ro v791 (cutB l x y (((classesL l x y).getD (q % ((classesL l x y).length : Int)).toNat []).drop 1) id), .ro v790 (cutA l x y (((classesL l x y).getD (q % ((classesL l x y).length : Int)).toNat []).drop 1) id), .ro v75 l, .ro v661 (restM l ((classesL l x y).getD (q % ((classesL l x y).length : Int)).toNat []) (l.length : Int) ++ [(x, (y, id))]), .ro v660 (offM l ((classesL l x y).getD (q % ((classesL l x y).length : Int)).toNat []) (l.length : Int) ++ [(x, (y, id))]), .ro v521 (cutB l x y ((classesL l x y).getD (q % ((classesL l x y).length : Int)).toNat []) id), .ro v520 (cutA l x y ((classesL l x y).getD (q % ((classesL l x y).length : Int)).toNat []) id), .ro v47 l, .ro v37 (classesL l x y), .ro v27 (vertsL l), .ro v15 (vertsL l), .ro eu43 ((classesL l x y).getD (q % ((classesL l x y).length : Int)).toNat []), .ro u74 (((classesL l x y).getD (q % ((classesL l x y).length : Int)).toNat []).drop 1)] := H
 replace hD := hD.below hG
 refine ⟨fun _ => hD, ?_⟩
 refine m_take (n := 1) [9, 10, 11, 12, 13, 14] #[true, true, true, true, true, true, true, true, true, true, true, true, true, true, true, false] [] [(13, v520), (14, v521), (15, .bool (cutOk l x y ((classesL l x y).getD (q % ((classesL l x y).length : Int)).toNat []) id)), (16, v660), (17, v661), (131, .bool (cutOk l x y (((classesL l x y).getD (q % ((classesL l x y).length : Int)).toNat []).drop 1) id))] (TT ∧ TT ∧ TT ∧ TT ∧ TT ∧ TT ∧ True) hA hD ⟨tv, tv, tv, tv, tv, tv, tv⟩ fun a hA => ?_
 refine m_one 15 ?_; refine q_one 15 [] [(13, v520), (14, v521), (15, .bool (cutOk l x y ((classesL l x y).getD (q % ((classesL l x y).length : Int)).toNat []) id)), (16, v660), (17, v661), (20, .bool (cutOk l x y (((classesL l x y).getD (q % ((classesL l x y).length : Int)).toNat []).drop 1) id))] (TT ∧ True) hA H ⟨tv, tv⟩ fun a w84 H hA hG => ?_
 refine ⟨fun h => absurd h (by decide), ?_⟩
 refine m_end ?_
 refine hK72 _ _ ?_
 refine go_seq fun K85 hK85 => ?_
 refine region_list ?_
 refine q_list 0 2 [] [(13, v520), (14, v521), (16, v660), (17, v661), (20, .bool (cutOk l x y (((classesL l x y).getD (q % ((classesL l x y).length : Int)).toNat []).drop 1) id)), (133, .bool (cutOk l x y ((classesL l x y).getD (q % ((classesL l x y).length : Int)).toNat []) id))] (TT ∧ TT ∧ True) hA H ⟨tv, tv, tv⟩ fun a w86 hA H hG => ?_
 have hb87 : (cutOk l x y ((classesL l x y).getD (q % ((classesL l x y).length : Int)).toNat []) id) = true := ht1
 have hhb87 := hb87
 refine q_listK [(133, true)] 2 1 [] [(14, v521), (16, v660), (17, v661), (20, .bool (cutOk l x y (((classesL l x y).getD (q % ((classesL l x y).length : Int)).toNat []).drop 1) id)), (133, .bool (cutOk l x y ((classesL l x y).getD (q % ((classesL l x y).length : Int)).toNat []) id)), (134, v520)] (((((cutOk l x y ((classesL l x y).getD (q % ((classesL l x y).length : Int)).toNat []) id) = true) ∧ True) ∧ (True)) ∧ True) hA H ⟨⟨⟨hb87, tv⟩, tv⟩, tv⟩ fun a w88 hA H hG => ?_
 refine list_at 3 ?_; refine op_on [(133, true)] (((cutOk l x y ((classesL l x y).getD (q % ((classesL l x y).length : Int)).toNat []) id) = true) ∧ True) hA ⟨hb87, tv⟩ ?_; refine q_call 3 135 72 #[.tmp 134] #[69] [v520] (fun S v_ w' => Rd S w' v_ ((cutA l x y ((classesL l x y).getD (q % ((classesL l x y).length : Int)).toNat []) id))) [(14, v521), (16, v660), (17, v661), (20, .bool (cutOk l x y (((classesL l x y).getD (q % ((classesL l x y).length : Int)).toNat []).drop 1) id)), (133, .bool (cutOk l x y ((classesL l x y).getD (q % ((classesL l x y).length : Int)).toNat []) id))] hA H (by exact plain_any v520 (cutA l x y ((classesL l x y).getD (q % ((classesL l x y).length : Int)).toNat []) id) H.at ((H.get 6 rfl)) (by omega)) fun v89 a w90 S hR91 H hA hG => ?_
 replace H := H.ro hR91
 refine q_listK [(133, true)] 4 4 [(137, .bool (decide ((cutA l x y ((classesL l x y).getD (q % ((classesL l x y).length : Int)).toNat []) id) = (offM l ((classesL l x y).getD (q % ((classesL l x y).length : Int)).toNat []) (l.length : Int) ++ [(x, (y, id))]))))] [(14, v521), (17, v661), (20, .bool (cutOk l x y (((classesL l x y).getD (q % ((classesL l x y).length : Int)).toNat []).drop 1) id)), (139, .bool (decide ((cutA l x y ((classesL l x y).getD (q % ((classesL l x y).length : Int)).toNat []) id) = (offM l ((classesL l x y).getD (q % ((classesL l x y).length : Int)).toNat []) (l.length : Int) ++ [(x, (y, id))]))))] (((((cutOk l x y ((classesL l x y).getD (q % ((classesL l x y).length : Int)).toNat []) id) = true) ∧ True) ∧ (True)) ∧ ((((cutOk l x y ((classesL l x y).getD (q % ((classesL l x y).length : Int)).toNat []) id) = true) ∧ True) ∧ (Callable Try.prog 71 ∧ CallOk Try.prog (On w90) 71 [v89, v660].toArray (.bool (decide ((cutA l x y ((classesL l x y).getD (q % ((classesL l x y).length : Int)).toNat []) id) = (offM l ((classesL l x y).getD (q % ((classesL l x y).length : Int)).toNat []) (l.length : Int) ++ [(x, (y, id))])))))) ∧ (TT ∧ ((cutOk l x y ((classesL l x y).getD (q % ((classesL l x y).length : Int)).toNat []) id) = true)) ∧ (TT ∧ (True)) ∧ True) hA H ⟨⟨⟨hb87, tv⟩, tv⟩, ⟨⟨hb87, tv⟩, ⟨callable_of, callOk_of fun w hw => by exact eqlk_any v89 v660 (cutA l x y ((classesL l x y).getD (q % ((classesL l x y).length : Int)).toNat []) id) (offM l ((classesL l x y).getD (q % ((classesL l x y).length : Int)).toNat []) (l.length : Int) ++ [(x, (y, id))]) w (((H.on hw).get 0 rfl)) (((H.on hw).get 5 rfl))⟩⟩, ⟨tv, hb87⟩, ⟨tv, tv⟩, tv⟩ fun a w93 hA H hG => ?_
 have hb94 : (decide ((cutA l x y ((classesL l x y).getD (q % ((classesL l x y).length : Int)).toNat []) id) = (offM l ((classesL l x y).getD (q % ((classesL l x y).length : Int)).toNat []) (l.length : Int) ++ [(x, (y, id))]))) = true := (by first | exact decide_eq_true ht2 | exact decide_eq_true ht3)
 have hhb94 := of_decide_eq_true hb94
 refine q_listK [(133, true), (139, true)] 8 1 [] [(17, v661), (20, .bool (cutOk l x y (((classesL l x y).getD (q % ((classesL l x y).length : Int)).toNat []).drop 1) id)), (139, .bool (decide ((cutA l x y ((classesL l x y).getD (q % ((classesL l x y).length : Int)).toNat []) id) = (offM l ((classesL l x y).getD (q % ((classesL l x y).length : Int)).toNat []) (l.length : Int) ++ [(x, (y, id))])))), (140, v521)] (((((decide ((cutA l x y ((classesL l x y).getD (q % ((classesL l x y).length : Int)).toNat []) id) = (offM l ((classesL l x y).getD (q % ((classesL l x y).length : Int)).toNat []) (l.length : Int) ++ [(x, (y, id))]))) = true) ∧ True) ∧ (True)) ∧ True) hA H ⟨⟨⟨hb94, tv⟩, tv⟩, tv⟩ fun a w95 hA H hG => ?_
 refine list_at 9 ?_; refine op_on [(133, true), (139, true)] (((decide ((cutA l x y ((classesL l x y).getD (q % ((classesL l x y).length : Int)).toNat []) id) = (offM l ((classesL l x y).getD (q % ((classesL l x y).length : Int)).toNat []) (l.length : Int) ++ [(x, (y, id))]))) = true) ∧ True) hA ⟨hb94, tv⟩ ?_; refine q_call 9 141 72 #[.tmp 140] #[69] [v521] (fun S v_ w' => Rd S w' v_ ((cutB l x y ((classesL l x y).getD (q % ((classesL l x y).length : Int)).toNat []) id))) [(17, v661), (20, .bool (cutOk l x y (((classesL l x y).getD (q % ((classesL l x y).length : Int)).toNat []).drop 1) id)), (139, .bool (decide ((cutA l x y ((classesL l x y).getD (q % ((classesL l x y).length : Int)).toNat []) id) = (offM l ((classesL l x y).getD (q % ((classesL l x y).length : Int)).toNat []) (l.length : Int) ++ [(x, (y, id))]))))] hA H (by exact plain_any v521 (cutB l x y ((classesL l x y).getD (q % ((classesL l x y).length : Int)).toNat []) id) H.at ((H.get 6 rfl)) (by omega)) fun v96 a w97 S hR98 H hA hG => ?_
 replace H := H.ro hR98
 refine q_listK [(133, true), (139, true)] 10 8 [(143, .bool (decide ((cutB l x y ((classesL l x y).getD (q % ((classesL l x y).length : Int)).toNat []) id) = (restM l ((classesL l x y).getD (q % ((classesL l x y).length : Int)).toNat []) (l.length : Int) ++ [(x, (y, id))]))))] [(10, .bool ((decide ((cutB l x y ((classesL l x y).getD (q % ((classesL l x y).length : Int)).toNat []) id) = (restM l ((classesL l x y).getD (q % ((classesL l x y).length : Int)).toNat []) (l.length : Int) ++ [(x, (y, id))]))) && (!(cutOk l x y (((classesL l x y).getD (q % ((classesL l x y).length : Int)).toNat []).drop 1) id))))] (((((decide ((cutA l x y ((classesL l x y).getD (q % ((classesL l x y).length : Int)).toNat []) id) = (offM l ((classesL l x y).getD (q % ((classesL l x y).length : Int)).toNat []) (l.length : Int) ++ [(x, (y, id))]))) = true) ∧ True) ∧ (True)) ∧ ((((decide ((cutA l x y ((classesL l x y).getD (q % ((classesL l x y).length : Int)).toNat []) id) = (offM l ((classesL l x y).getD (q % ((classesL l x y).length : Int)).toNat []) (l.length : Int) ++ [(x, (y, id))]))) = true) ∧ True) ∧ (Callable Try.prog 71 ∧ CallOk Try.prog (On w97) 71 [v96, v661].toArray (.bool (decide ((cutB l x y ((classesL l x y).getD (q % ((classesL l x y).length : Int)).toNat []) id) = (restM l ((classesL l x y).getD (q % ((classesL l x y).length : Int)).toNat []) (l.length : Int) ++ [(x, (y, id))])))))) ∧ (TT ∧ ((decide ((cutA l x y ((classesL l x y).getD (q % ((classesL l x y).length : Int)).toNat []) id) = (offM l ((classesL l x y).getD (q % ((classesL l x y).length : Int)).toNat []) (l.length : Int) ++ [(x, (y, id))]))) = true)) ∧ (TT ∧ (True)) ∧ (TT ∧ ((decide ((cutB l x y ((classesL l x y).getD (q % ((classesL l x y).length : Int)).toNat []) id) = (restM l ((classesL l x y).getD (q % ((classesL l x y).length : Int)).toNat []) (l.length : Int) ++ [(x, (y, id))]))) = true → True)) ∧ (TT ∧ ((decide ((cutB l x y ((classesL l x y).getD (q % ((classesL l x y).length : Int)).toNat []) id) = (restM l ((classesL l x y).getD (q % ((classesL l x y).length : Int)).toNat []) (l.length : Int) ++ [(x, (y, id))]))) = true → True)) ∧ (TT ∧ (True)) ∧ (TT ∧ (True)) ∧ True) hA H ⟨⟨⟨hb94, tv⟩, tv⟩, ⟨⟨hb94, tv⟩, ⟨callable_of, callOk_of fun w hw => by exact eqlk_any v96 v661 (cutB l x y ((classesL l x y).getD (q % ((classesL l x y).length : Int)).toNat []) id) (restM l ((classesL l x y).getD (q % ((classesL l x y).length : Int)).toNat []) (l.length : Int) ++ [(x, (y, id))]) w (((H.on hw).get 0 rfl)) (((H.on hw).get 5 rfl))⟩⟩, ⟨tv, hb94⟩, ⟨tv, tv⟩, ⟨tv, fun _ => tv⟩, ⟨tv, fun _ => tv⟩, ⟨tv, tv⟩, ⟨tv, tv⟩, tv⟩ fun a w100 hA H hG => ?_
 refine list_end ?_
 refine hK85 _ _ ?_
 refine go_ret_ ?_
 refine ret_one 10 (.bool ((decide ((cutB l x y ((classesL l x y).getD (q % ((classesL l x y).length : Int)).toNat []) id) = (restM l ((classesL l x y).getD (q % ((classesL l x y).length : Int)).toNat []) (l.length : Int) ++ [(x, (y, id))]))) && (!(cutOk l x y (((classesL l x y).getD (q % ((classesL l x y).length : Int)).toNat []).drop 1) id)))) hA ?_
 exact ans_b' (by rw [ht4, decide_eq_true ht3]; rfl) H.below
end Go.Proofs.Ytahonnlgkmimlaa
