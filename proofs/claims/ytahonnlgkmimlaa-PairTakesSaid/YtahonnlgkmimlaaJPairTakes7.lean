/-
 Texts joined by program: WalkP12, PairF, PairG, TabC, WalkQ1, PairH, WalkQ2, WalkQ3, PairI, WalkB10, WalkB11, WalkB12.
-/
import Derived.Test.YtahonnlgkmimlaaProg
import Derived.Laws.StructEq
import Derived.Tactics
import Derived.Test.YtahonnlgkmimlaaJPairTakes6
set_option linter.unusedSimpArgs false
set_option linter.unusedVariables false
set_option maxRecDepth 100000
set_option maxHeartbeats 8000000
namespace Go.Proofs.Ytahonnlgkmimlaa
open Go.RowKit
theorem cut_any (vl : Value) (l : List (Int × Int × Int)) (x y : Int) (sv : Value) (sd : List Int) (id : Int) (o : Orig) (hL : Rd (· < o.w.heap.size) o.w vl l) (hs : l.length ≤ 100000) (hS : Rd (· < o.w.heap.size) o.w sv sd) (hs2 : sd.length ≤ 100000) (hwf : WfL l) (hx : -9223372036854775808 ≤ x ∧ x ≤ 9223372036854775807) (hy : -9223372036854775808 ≤ y ∧ y ≤ 9223372036854775807) (hid : -9223372036854775808 ≤ id ∧ id ≤ 9223372036854775807) :
 Calls Try.prog 68 [vl, .agg #[.int .i64 x, .int .i64 y, sv], .int .i64 id].toArray o.w (Giv o (fun S v w' => ∃ a b, v = .tuple #[a, b, .bool (cutOk l x y sd id)] ∧ Rd S w' a (cutA l x y sd id) ∧ Rd S w' b (cutB l x y sd id))) := by
 have hpl := pclasses_len l x y
 refine enter Try.f68 78 Try.func68 fun a hA => ?_
 replace hA := env_sub [(0, vl), (1, .agg #[.int .i64 x, .int .i64 y, sv]), (2, iv id)] hA
 have H := Fr.start o
 refine go_seq fun K1 hK1 => ?_
 refine region_list ?_
 refine list_at 0 ?_; refine q_box 0 4 81 (.tmp 1) (.agg #[.int .i64 x, .int .i64 y, sv]) [.int .i64 x, .int .i64 y, sv] [(0, vl), (2, iv id)] hA H fun b2 a w3 H hA hG hge_b2 => ?_
 clear hge_b2
 refine list_at 1 ?_; refine q_box 1 5 3 (.tmp 2) (.int .i64 id) [.int .i64 id] [(0, vl), (4, pv b2)] hA H fun b4 a w5 H hA hG hge_b4 => ?_
 clear hge_b4
 refine q_list 2 3 [] [(0, vl), (4, pv b2), (5, pv b4)] (TT ∧ TT ∧ TT ∧ True) hA H ⟨tv, tv, tv, tv⟩ fun a w6 hA H hG => ?_
 refine list_end ?_
 refine hK1 _ _ ?_
 refine go_seq fun K7 hK7 => ?_
 refine region_list ?_
 refine q_list 0 5 [(18, iv x), (20, iv y)] [(0, vl), (4, pv b2), (5, pv b4), (16, vl), (18, iv x), (20, iv y)] (TT ∧ (0 < Try.prog.cellsOf 3) ∧ (CellOk (On w6) b2 (0 + 0) (.int .i64 x)) ∧ (0 < Try.prog.cellsOf 3) ∧ (CellOk (On w6) b2 (0 + 1) (.int .i64 y)) ∧ True) hA H ⟨tv, by decide +kernel, by exact box_cell H 1 rfl 0, by decide +kernel, by exact box_cell H 1 rfl 1, tv⟩ fun a w8 hA H hG => ?_
 refine list_at 5 ?_; refine q_call 5 21 56 #[.tmp 16, .tmp 18, .tmp 20] #[69, 3, 3] [vl, .int .i64 x, .int .i64 y] (fun S v_ w' => Rd S w' v_ ((pclassesE l x y))) [(0, vl), (4, pv b2), (5, pv b4)] hA H (by exact pclasses_any vl l x y H.at ((H.arg hL)) (by omega) hwf (by omega) (by omega)) fun v9 a w10 S hR11 H hA hG => ?_
 replace H := H.ro hR11
 refine list_at 6 ?_; refine q_funcN 6 22 95 [.tmp 4] [.pointer (some ⟨b2, 0, none⟩)] [(0, vl), (4, pv b2), (5, pv b4), (21, v9)] hA fun a hA => ?_
 replace H := Fr.order [.ro v9 (pclassesE l x y), .box b4 3 [.int .i64 id], .box b2 81 [.int .i64 x, .int .i64 y, sv]] [] H [0, 2, 1] (by show List.Perm _ (List.range 3); decide)
 replace H : Fr _ _ _ [.ro v9 (pclassesE l x y), .box b2 81 [.int .i64 x, .int .i64 y, sv], .box b4 3 [.int .i64 id]] := H
 refine list_at 7 ?_; refine q_any 7 23 94 #[.tmp 21, .tmp 22] #[67, 119] [v9, .func (.func 95) #[] #[.pointer (some ⟨b2, 0, none⟩)]] _ [(0, vl), (4, pv b2), (5, pv b4)] hA (contlist_any 95 [.pointer (some ⟨b2, 0, none⟩)] (fun c => decide (c = sd)) v9 (pclassesE l x y) o _ [.box b2 81 [.int .i64 x, .int .i64 y, sv], .box b4 3 [.int .i64 id]] _ H (by omega) callable_of (fun x9 b9 w' S' hb H' => (cut1_any b2 x y sv sd x9 b9 o S' (.ro v9 (pclassesE l x y) :: [.box b4 3 [.int .i64 id]]) w' (H'.sink 2 1) hS).mono fun e w2 ⟨q, he, hq, S2, H2⟩ => ⟨q, he, hq, S2, H2.sink 1 2⟩)) fun v13 a w14 hR15 hA => ?_
 obtain ⟨rfl, S, H⟩ := hR15
 refine q_list 8 1 [] [(0, vl), (4, pv b2), (5, pv b4), (9, .bool ((pclassesE l x y).any (fun c => decide (c = sd))))] (TT ∧ True) hA H ⟨tv, tv⟩ fun a w16 hA H hG => ?_
 refine list_end ?_
 refine hK7 _ _ ?_
 refine go_seq fun K17 hK17 => ?_
 refine region_list ?_
 refine q_list 0 1 [] [(0, vl), (4, pv b2), (5, pv b4), (9, .bool ((pclassesE l x y).any (fun c => decide (c = sd)))), (24, vl)] (TT ∧ True) hA H ⟨tv, tv⟩ fun a w18 hA H hG => ?_
 refine list_at 1 ?_; refine q_funcN 1 25 97 [.tmp 5] [.pointer (some ⟨b4, 0, none⟩)] [(0, vl), (4, pv b2), (5, pv b4), (9, .bool ((pclassesE l x y).any (fun c => decide (c = sd)))), (24, vl)] hA fun a hA => ?_
 replace H := Fr.order [.ro v9 (pclassesE l x y), .box b2 81 [.int .i64 x, .int .i64 y, sv], .box b4 3 [.int .i64 id]] [] H [2, 0, 1] (by show List.Perm _ (List.range 3); decide)
 replace H : Fr _ _ _ [.box b4 3 [.int .i64 id], .ro v9 (pclassesE l x y), .box b2 81 [.int .i64 x, .int .i64 y, sv]] := H
 refine list_at 2 ?_; refine q_any 2 26 96 #[.tmp 24, .tmp 25] #[69, 121] [vl, .func (.func 97) #[] #[.pointer (some ⟨b4, 0, none⟩)]] _ [(0, vl), (4, pv b2), (5, pv b4), (9, .bool ((pclassesE l x y).any (fun c => decide (c = sd))))] hA (contlk_any 97 [.pointer (some ⟨b4, 0, none⟩)] (fun b => decide (b.2.2 = id)) vl l o _ [.box b4 3 [.int .i64 id], .ro v9 (pclassesE l x y), .box b2 81 [.int .i64 x, .int .i64 y, sv]] _ H hL (by omega) callable_of (fun b9 w' S' hb H' => cut2_any b4 id b9 o S' [.ro v9 (pclassesE l x y), .box b2 81 [.int .i64 x, .int .i64 y, sv]] w' H')) fun v19 a w20 hR21 hA => ?_
 obtain ⟨rfl, S, H⟩ := hR21
 refine q_list 3 1 [] [(0, vl), (4, pv b2), (5, pv b4), (9, .bool ((pclassesE l x y).any (fun c => decide (c = sd)))), (10, .bool (l.any (fun b => decide (b.2.2 = id))))] (TT ∧ True) hA H ⟨tv, tv⟩ fun a w22 hA H hG => ?_
 refine list_end ?_
 refine hK17 _ _ ?_
 refine go_seq fun K23 hK23 => ?_
 refine go_seq fun K24 hK24 => ?_
 refine q_reg [(32, sv), (33, iv (sd.length : Int)), (34, .bool (decide (2 ≤ (sd.length : Int)) && decide (2 ≤ (l.length : Int) - (sd.length : Int)))), (38, iv id)] [(0, vl), (4, pv b2), (5, pv b4), (43, .bool ((((!((pclassesE l x y).any (fun c => decide (c = sd)))) || (!(decide (2 ≤ (sd.length : Int)) && decide (2 ≤ (l.length : Int) - (sd.length : Int))))) || (decide ((0 : Int) ≤ id))) || (l.any (fun b => decide (b.2.2 = id)))))] (TT ∧ TT ∧ TT ∧ ((!((pclassesE l x y).any (fun c => decide (c = sd)))) = false → True) ∧ ((!((pclassesE l x y).any (fun c => decide (c = sd)))) = false → 0 < Try.prog.cellsOf 27) ∧ ((!((pclassesE l x y).any (fun c => decide (c = sd)))) = false → CellOk (On w22) b2 (0 + 2) (sv)) ∧ ((!((pclassesE l x y).any (fun c => decide (c = sd)))) = false → LenOk sv (sd.length : Int)) ∧ ((!((pclassesE l x y).any (fun c => decide (c = sd)))) = false → Callable Try.prog 92 ∧ CallOk Try.prog (On w22) 92 [vl, .int .i64 (sd.length : Int)].toArray (.bool (decide (2 ≤ (sd.length : Int)) && decide (2 ≤ (l.length : Int) - (sd.length : Int))))) ∧ ((!((pclassesE l x y).any (fun c => decide (c = sd)))) = false → True) ∧ TT ∧ TT ∧ (((!((pclassesE l x y).any (fun c => decide (c = sd)))) || (!(decide (2 ≤ (sd.length : Int)) && decide (2 ≤ (l.length : Int) - (sd.length : Int))))) = false → CellOk (On w22) b4 (0) (.int .i64 id)) ∧ (((!((pclassesE l x y).any (fun c => decide (c = sd)))) || (!(decide (2 ≤ (sd.length : Int)) && decide (2 ≤ (l.length : Int) - (sd.length : Int))))) = false → True) ∧ TT ∧ TT ∧ ((((!((pclassesE l x y).any (fun c => decide (c = sd)))) || (!(decide (2 ≤ (sd.length : Int)) && decide (2 ≤ (l.length : Int) - (sd.length : Int))))) || (decide ((0 : Int) ≤ id))) = false → True) ∧ TT ∧ True) hA H ⟨tv, tv, tv, fun _ => tv, fun _ => by decide +kernel, fun _ => by exact box_cell H 2 rfl 2, fun _ => by exact len_ok (H.arg hS), fun hg0 => by replace hg0 := (nF hg0); exact ⟨callable_of, callOk_of fun w hw => by exact will_any vl l (sd.length : Int) w (((H.on hw).arg hL)) (by omega) (by omega)⟩, fun _ => tv, tv, tv, fun _ => by exact box_cell H 0 rfl 0, fun _ => tv, tv, tv, fun _ => tv, tv, tv⟩ fun a w25 hA H hG => ?_
 refine hK24 _ _ ?_
 refine go_cond hA (.tmp 43) ((((!((pclassesE l x y).any (fun c => decide (c = sd)))) || (!(decide (2 ≤ (sd.length : Int)) && decide (2 ≤ (l.length : Int) - (sd.length : Int))))) || (decide ((0 : Int) ≤ id))) || (l.any (fun b => decide (b.2.2 = id)))) (fun hb26 => ?_) (fun hb26 => ?_)
 · have hhb26 := (oT hb26).imp (fun h => (oT h).imp (fun h => (oT h).imp (fun h => (nT h)) (fun h => (aF (nT h)).imp (fun h => of_decide_eq_false h) (fun h => of_decide_eq_false h))) (fun h => of_decide_eq_true h)) (fun h => h)
   refine go_seq fun K27 hK27 => ?_
   refine q_reg [] [(6, (.slice none 0 0)), (7, (.slice none 0 0)), (8, .bool false)] (TT ∧ TT ∧ TT ∧ True) hA H ⟨tv, tv, tv, tv⟩ fun a w28 hA H hG => ?_
   refine hK27 _ _ ?_
   refine go_ret_ ?_
   refine ret_three 6 7 8 (.slice none 0 0) (.slice none 0 0) (.bool false) hA ?_
   exact ⟨_, rfl, cut_givF hb26, H.below⟩
 have hhb26 := (⟨(⟨(⟨(nF ((oF ((oF ((oF hb26).1)).1)).1)), (⟨of_decide_eq_true ((aT (nF ((oF ((oF ((oF hb26).1)).1)).2))).1), of_decide_eq_true ((aT (nF ((oF ((oF ((oF hb26).1)).1)).2))).2)⟩ : _ ∧ _)⟩ : _ ∧ _), of_decide_eq_false ((oF ((oF hb26).1)).2)⟩ : _ ∧ _), (oF hb26).2⟩ : _ ∧ _)
 refine go_skip ?_
 refine hK23 _ _ ?_
 refine go_seq fun K29 hK29 => ?_
 refine q_reg [] [(0, vl), (4, pv b2), (5, pv b4), (11, (.slice none 0 0)), (12, (.slice none 0 0))] (TT ∧ TT ∧ True) hA H ⟨tv, tv, tv⟩ fun a w30 hA H hG => ?_
 refine hK29 _ _ ?_
 refine go_seq fun K31 hK31 => ?_
 refine go_seq fun K32 hK32 => ?_
 refine q_reg [(45, iv (l.length : Int))] [(4, pv b2), (5, pv b4), (11, (.slice none 0 0)), (12, (.slice none 0 0)), (44, vl), (45, iv (l.length : Int)), (46, iv 0)] (TT ∧ (LenOk vl (l.length : Int)) ∧ TT ∧ True) hA H ⟨tv, by exact len_ok (H.arg hL), tv, tv⟩ fun a w33 hA H hG => ?_
 refine hK32 _ _ ?_
 refine go_block 0 ?_
 replace H := H.newRow (α := Int × Int × Int) 92
 replace H := H.newRow (α := Int × Int × Int) 92
 refine go_loop_ (Int × Value × List (Int × Int × Int) × Value × List (Int × Int × Int)) (fun x_ a W => (fun (i : Int) (va : Value) (la : List (Int × Int × Int)) (vb : Value) (lb : List (Int × Int × Int)) => EnvOk 78 a (keepEnv [(4, pv b2), (5, pv b4), (11, va), (12, vb), (44, vl), (45, iv (l.length : Int)), (46, iv i)]) ∧ (∃ S, Fr o W S [.row 92 va la, .row 92 vb lb, .box b4 3 [.int .i64 id], .ro v9 (pclassesE l x y), .box b2 81 [.int .i64 x, .int .i64 y, sv]]) ∧ 0 ≤ i ∧ i ≤ (l.length : Int) ∧ (la.length : Int) ≤ i ∧ (lb.length : Int) ≤ i ∧ la = offL l sd i ∧ lb = restL l sd i) x_.1 x_.2.1 x_.2.2.1 x_.2.2.2.1 x_.2.2.2.2) (fun x_ => (fun (i : Int) (va : Value) (la : List (Int × Int × Int)) (vb : Value) (lb : List (Int × Int × Int)) => ((l.length : Int) - i).toNat) x_.1 x_.2.1 x_.2.2.1 x_.2.2.2.1 x_.2.2.2.2) (0, .slice none 0 0, [], .slice none 0 0, []) ?_ (fun x_ a w35 hI => ?_)
 · (try dsimp only); exact ⟨env_sub _ hA, ⟨_, H⟩, by omega, by omega, by simp, by simp, rfl, rfl⟩
 obtain ⟨i, va, la, vb, lb⟩ := x_
 obtain ⟨hA, ⟨S, H⟩, h0, h0b, h1, h2, hi, hj⟩ := hI
 try dsimp only at h0 h0b h1 h2 hi hj
 replace H : Fr _ _ _ [.row 92 va la, .row 92 vb lb, .box b4 3 [.int .i64 id], .ro v9 (pclassesE l x y), .box b2 81 [.int .i64 x, .int .i64 y, sv]] := H
 refine go_seq fun K36 hK36 => ?_
 refine q_reg [] [(4, pv b2), (5, pv b4), (11, va), (12, vb), (44, vl), (45, iv (l.length : Int)), (46, iv i), (47, .bool (decide (i < (l.length : Int))))] (TT ∧ True) hA H ⟨tv, tv⟩ fun a w37 hA H hG => ?_
 refine hK36 _ _ ?_
 refine go_seq fun K38 hK38 => ?_
 refine go_cond hA (.tmp 47) (decide (i < (l.length : Int))) (fun hb39 => ?_) (fun hb39 => ?_)
 · have hhb39 := of_decide_eq_true hb39
   refine go_skip ?_
   refine hK38 _ _ ?_
   refine go_seq fun K40 hK40 => ?_
   refine go_block 1 ?_
   refine go_seq fun K41 hK41 => ?_
   refine region_list ?_
   refine q_list 0 3 [(50, .agg #[.int .i64 ((l.getD i.toNat (0, (0, 0))).1), .int .i64 (((l.getD i.toNat (0, (0, 0))).2).1), .int .i64 (((l.getD i.toNat (0, (0, 0))).2).2)])] [(4, pv b2), (5, pv b4), (11, va), (12, vb), (44, vl), (45, iv (l.length : Int)), (46, iv i), (48, iv i), (50, .agg #[.int .i64 ((l.getD i.toNat (0, (0, 0))).1), .int .i64 (((l.getD i.toNat (0, (0, 0))).2).1), .int .i64 (((l.getD i.toNat (0, (0, 0))).2).2)])] (TT ∧ ((Try.prog.info? 92).isSome = true ∧ IdxOk vl i) ∧ ((Try.prog.info? 92).isSome = true ∧ RowOk (On w37) (hdB vl) (hdO vl + i.toNat * 3) (Try.prog.cellsOf 92) #[.int .i64 ((l.getD i.toNat (0, (0, 0))).1), .int .i64 (((l.getD i.toNat (0, (0, 0))).2).1), .int .i64 (((l.getD i.toNat (0, (0, 0))).2).2)]) ∧ True) hA H ⟨tv, ⟨by kernel_rfl, by exact idx_ok (H.arg hL) (by omega) (by omega)⟩, ⟨by kernel_rfl, by exact row_flat (i := i) (H.arg hL) (by omega) (by omega) (0, (0, 0))⟩, tv⟩ fun a w42 hA H hG => ?_
   refine list_at 3 ?_; refine q_alloc 3 14 92 [.int .i64 0, .int .i64 0, .int .i64 0] [(4, pv b2), (5, pv b4), (11, va), (12, vb), (44, vl), (45, iv (l.length : Int)), (46, iv i), (48, iv i), (50, .agg #[.int .i64 ((l.getD i.toNat (0, (0, 0))).1), .int .i64 (((l.getD i.toNat (0, (0, 0))).2).1), .int .i64 (((l.getD i.toNat (0, (0, 0))).2).2)])] hA H fun b43 a w44 H hA hG hge_b43 => ?_
   clear hge_b43
   refine q_list 4 1 [] [(4, pv b2), (5, pv b4), (11, va), (12, vb), (13, iv i), (14, pv b43), (44, vl), (45, iv (l.length : Int)), (46, iv i), (50, .agg #[.int .i64 ((l.getD i.toNat (0, (0, 0))).1), .int .i64 (((l.getD i.toNat (0, (0, 0))).2).1), .int .i64 (((l.getD i.toNat (0, (0, 0))).2).2)])] (TT ∧ True) hA H ⟨tv, tv⟩ fun a w45 hA H hG => ?_
   refine list_at 5 ?_; refine q_store 5 92 (.tmp 14) (.tmp 50) 0 b43 (0) 92 [.int .i64 0, .int .i64 0, .int .i64 0] [.int .i64 ((l.getD i.toNat (0, (0, 0))).1), .int .i64 (((l.getD i.toNat (0, (0, 0))).2).1), .int .i64 (((l.getD i.toNat (0, (0, 0))).2).2)] [.int .i64 ((l.getD i.toNat (0, (0, 0))).1), .int .i64 (((l.getD i.toNat (0, (0, 0))).2).1), .int .i64 (((l.getD i.toNat (0, (0, 0))).2).2)] (.agg #[.int .i64 ((l.getD i.toNat (0, (0, 0))).1), .int .i64 (((l.getD i.toNat (0, (0, 0))).2).1), .int .i64 (((l.getD i.toNat (0, (0, 0))).2).2)]) [(4, pv b2), (5, pv b4), (11, va), (12, vb), (13, iv i), (14, pv b43), (44, vl), (45, iv (l.length : Int)), (46, iv i)] hA H rfl rfl (Nat.le_of_ble_eq_true (by kernel_rfl)) rfl (fun v hv => by simp only [List.mem_cons, List.not_mem_nil, or_false] at hv; rcases hv with rfl | rfl | rfl; exact rfl; exact rfl; exact rfl) fun a w46 H hA hG => ?_
   replace H : Fr _ _ _ [.box b43 92 [.int .i64 ((l.getD i.toNat (0, (0, 0))).1), .int .i64 (((l.getD i.toNat (0, (0, 0))).2).1), .int .i64 (((l.getD i.toNat (0, (0, 0))).2).2)], .row 92 va la, .row 92 vb lb, .box b4 3 [.int .i64 id], .ro v9 (pclassesE l x y), .box b2 81 [.int .i64 x, .int .i64 y, sv]] := H
   refine list_end ?_
   refine hK41 _ _ ?_
   refine go_seq fun K47 hK47 => ?_
   refine q_reg [(52, sv), (54, .bool (hasB sd i))] [(4, pv b2), (5, pv b4), (11, va), (12, vb), (14, pv b43), (44, vl), (45, iv (l.length : Int)), (46, iv i), (54, .bool (hasB sd i))] ((0 < Try.prog.cellsOf 27) ∧ (CellOk (On w46) b2 (0 + 2) (sv)) ∧ TT ∧ (Callable Try.prog 39 ∧ CallOk Try.prog (On w46) 39 [sv, .int .i64 i].toArray (.bool (hasB sd i))) ∧ True) hA H ⟨by decide +kernel, by exact box_cell H 5 rfl 2, tv, ⟨callable_of, callOk_of fun w hw => by exact has_any sv sd i w (((H.on hw).arg hS)) (by omega)⟩, tv⟩ fun a w48 hA H hG => ?_
   refine hK47 _ _ ?_
   refine go_cond hA (.tmp 54) (hasB sd i) (fun hb49 => ?_) (fun hb49 => ?_)
   · have hhb49 := hb49
     refine region_list ?_
     refine q_list 0 2 [(56, .agg #[.int .i64 ((l.getD i.toNat (0, (0, 0))).1), .int .i64 (((l.getD i.toNat (0, (0, 0))).2).1), .int .i64 (((l.getD i.toNat (0, (0, 0))).2).2)])] [(4, pv b2), (5, pv b4), (12, vb), (44, vl), (45, iv (l.length : Int)), (46, iv i), (55, va), (56, .agg #[.int .i64 ((l.getD i.toNat (0, (0, 0))).1), .int .i64 (((l.getD i.toNat (0, (0, 0))).2).1), .int .i64 (((l.getD i.toNat (0, (0, 0))).2).2)])] (TT ∧ ((Try.prog.info? 92).isSome = true ∧ RowOk (On w48) b43 (0) (Try.prog.cellsOf 92) #[.int .i64 ((l.getD i.toNat (0, (0, 0))).1), .int .i64 (((l.getD i.toNat (0, (0, 0))).2).1), .int .i64 (((l.getD i.toNat (0, (0, 0))).2).2)]) ∧ True) hA H ⟨tv, ⟨by kernel_rfl, by exact box_row H 0 rfl 0 3⟩, tv⟩ fun a w50 hA H hG => ?_
     refine list_at 2 ?_; refine q_lit 2 57 69 1 #[(0, .tmp 56)] 92 [(0, .agg #[.int .i64 ((l.getD i.toNat (0, (0, 0))).1), .int .i64 (((l.getD i.toNat (0, (0, 0))).2).1), .int .i64 (((l.getD i.toNat (0, (0, 0))).2).2)])] [.int .i64 ((l.getD i.toNat (0, (0, 0))).1), .int .i64 (((l.getD i.toNat (0, (0, 0))).2).1), .int .i64 (((l.getD i.toNat (0, (0, 0))).2).2)] [(4, pv b2), (5, pv b4), (12, vb), (44, vl), (45, iv (l.length : Int)), (46, iv i), (55, va)] hA H fun b51 a w52 H hA hG hge_b51 => ?_
     clear hge_b51
     refine list_at 3 ?_; refine q_push 3 58 (.tmp 55) (.tmp 57) 2 0 b51 1 1 va la [((l.getD i.toNat (0, (0, 0))).1, (((l.getD i.toNat (0, (0, 0))).2).1, ((l.getD i.toNat (0, (0, 0))).2).2))] [.int .i64 ((l.getD i.toNat (0, (0, 0))).1), .int .i64 (((l.getD i.toNat (0, (0, 0))).2).1), .int .i64 (((l.getD i.toNat (0, (0, 0))).2).2)] [(4, pv b2), (5, pv b4), (12, vb), (44, vl), (45, iv (l.length : Int)), (46, iv i)] hA H Try.E69 rfl rfl (by exact (RowRd.single (α := Int × Int × Int) ⟨[_], _, rfl, rfl, ⟨[_], _, rfl, rfl, rfl⟩⟩)) rfl (by simp only [List.length_cons, List.length_nil, List.length_append]; omega) (by decide) fun v53 a w54 H hA hG => ?_
     replace H : Fr _ _ _ [.box b43 92 [.int .i64 ((l.getD i.toNat (0, (0, 0))).1), .int .i64 (((l.getD i.toNat (0, (0, 0))).2).1), .int .i64 (((l.getD i.toNat (0, (0, 0))).2).2)], .row 92 v53 (la ++ [((l.getD i.toNat (0, (0, 0))).1, (((l.getD i.toNat (0, (0, 0))).2).1, ((l.getD i.toNat (0, (0, 0))).2).2))]), .row 92 vb lb, .box b4 3 [.int .i64 id], .ro v9 (pclassesE l x y), .box b2 81 [.int .i64 x, .int .i64 y, sv]] := H.drop 0
     refine q_list 4 1 [] [(4, pv b2), (5, pv b4), (11, v53), (12, vb), (44, vl), (45, iv (l.length : Int)), (46, iv i)] (TT ∧ True) hA H ⟨tv, tv⟩ fun a w55 hA H hG => ?_
     refine list_end ?_
     refine hK40 _ _ ?_
     refine q_reg [] [(4, pv b2), (5, pv b4), (11, v53), (12, vb), (44, vl), (45, iv (l.length : Int)), (46, iv (i + 1))] ((InR .i64 (i + 1)) ∧ TT ∧ True) hA H ⟨⟨by omega, by omega⟩, tv, tv⟩ fun a w56 hA H hG => ?_
     replace H := H.drop 0
     refine ⟨(i + 1, v53, la ++ [((l.getD i.toNat (0, (0, 0))).1, (((l.getD i.toNat (0, (0, 0))).2).1, ((l.getD i.toNat (0, (0, 0))).2).2))], vb, lb), ⟨env_sub _ hA, ⟨_, H⟩, ?_⟩, ?_⟩
     · (try dsimp only); exact ⟨by omega, by omega, by (try simp only [List.length_append, List.length_cons, List.length_nil]); omega, by (try simp only [List.length_append, List.length_cons, List.length_nil]); omega, by rw [offL_yes h0 hb49, ← hi], by rw [restL_yes h0 hb49, ← hj]⟩
     (try dsimp only); omega
   have hhb49 := hb49
   refine region_list ?_
   refine q_list 0 2 [(60, .agg #[.int .i64 ((l.getD i.toNat (0, (0, 0))).1), .int .i64 (((l.getD i.toNat (0, (0, 0))).2).1), .int .i64 (((l.getD i.toNat (0, (0, 0))).2).2)])] [(4, pv b2), (5, pv b4), (11, va), (44, vl), (45, iv (l.length : Int)), (46, iv i), (59, vb), (60, .agg #[.int .i64 ((l.getD i.toNat (0, (0, 0))).1), .int .i64 (((l.getD i.toNat (0, (0, 0))).2).1), .int .i64 (((l.getD i.toNat (0, (0, 0))).2).2)])] (TT ∧ ((Try.prog.info? 92).isSome = true ∧ RowOk (On w48) b43 (0) (Try.prog.cellsOf 92) #[.int .i64 ((l.getD i.toNat (0, (0, 0))).1), .int .i64 (((l.getD i.toNat (0, (0, 0))).2).1), .int .i64 (((l.getD i.toNat (0, (0, 0))).2).2)]) ∧ True) hA H ⟨tv, ⟨by kernel_rfl, by exact box_row H 0 rfl 0 3⟩, tv⟩ fun a w57 hA H hG => ?_
   refine list_at 2 ?_; refine q_lit 2 61 69 1 #[(0, .tmp 60)] 92 [(0, .agg #[.int .i64 ((l.getD i.toNat (0, (0, 0))).1), .int .i64 (((l.getD i.toNat (0, (0, 0))).2).1), .int .i64 (((l.getD i.toNat (0, (0, 0))).2).2)])] [.int .i64 ((l.getD i.toNat (0, (0, 0))).1), .int .i64 (((l.getD i.toNat (0, (0, 0))).2).1), .int .i64 (((l.getD i.toNat (0, (0, 0))).2).2)] [(4, pv b2), (5, pv b4), (11, va), (44, vl), (45, iv (l.length : Int)), (46, iv i), (59, vb)] hA H fun b58 a w59 H hA hG hge_b58 => ?_
   clear hge_b58
   refine list_at 3 ?_; refine q_push 3 62 (.tmp 59) (.tmp 61) 3 0 b58 1 1 vb lb [((l.getD i.toNat (0, (0, 0))).1, (((l.getD i.toNat (0, (0, 0))).2).1, ((l.getD i.toNat (0, (0, 0))).2).2))] [.int .i64 ((l.getD i.toNat (0, (0, 0))).1), .int .i64 (((l.getD i.toNat (0, (0, 0))).2).1), .int .i64 (((l.getD i.toNat (0, (0, 0))).2).2)] [(4, pv b2), (5, pv b4), (11, va), (44, vl), (45, iv (l.length : Int)), (46, iv i)] hA H Try.E69 rfl rfl (by exact (RowRd.single (α := Int × Int × Int) ⟨[_], _, rfl, rfl, ⟨[_], _, rfl, rfl, rfl⟩⟩)) rfl (by simp only [List.length_cons, List.length_nil, List.length_append]; omega) (by decide) fun v60 a w61 H hA hG => ?_
   replace H : Fr _ _ _ [.box b43 92 [.int .i64 ((l.getD i.toNat (0, (0, 0))).1), .int .i64 (((l.getD i.toNat (0, (0, 0))).2).1), .int .i64 (((l.getD i.toNat (0, (0, 0))).2).2)], .row 92 va la, .row 92 v60 (lb ++ [((l.getD i.toNat (0, (0, 0))).1, (((l.getD i.toNat (0, (0, 0))).2).1, ((l.getD i.toNat (0, (0, 0))).2).2))]), .box b4 3 [.int .i64 id], .ro v9 (pclassesE l x y), .box b2 81 [.int .i64 x, .int .i64 y, sv]] := H.drop 0
   refine q_list 4 1 [] [(4, pv b2), (5, pv b4), (11, va), (12, v60), (44, vl), (45, iv (l.length : Int)), (46, iv i)] (TT ∧ True) hA H ⟨tv, tv⟩ fun a w62 hA H hG => ?_
   refine list_end ?_
   refine hK40 _ _ ?_
   refine q_reg [] [(4, pv b2), (5, pv b4), (11, va), (12, v60), (44, vl), (45, iv (l.length : Int)), (46, iv (i + 1))] ((InR .i64 (i + 1)) ∧ TT ∧ True) hA H ⟨⟨by omega, by omega⟩, tv, tv⟩ fun a w63 hA H hG => ?_
   replace H := H.drop 0
   refine ⟨(i + 1, va, la, v60, lb ++ [((l.getD i.toNat (0, (0, 0))).1, (((l.getD i.toNat (0, (0, 0))).2).1, ((l.getD i.toNat (0, (0, 0))).2).2))]), ⟨env_sub _ hA, ⟨_, H⟩, ?_⟩, ?_⟩
   · (try dsimp only); exact ⟨by omega, by omega, by (try simp only [List.length_append, List.length_cons, List.length_nil]); omega, by (try simp only [List.length_append, List.length_cons, List.length_nil]); omega, by rw [offL_no h0 hb49, ← hi], by rw [restL_no h0 hb49, ← hj]⟩
   (try dsimp only); omega
 have hhb39 := of_decide_eq_false hb39
 refine go_exit 0 ?_
 refine hK31 _ _ ?_
 refine go_seq fun K64 hK64 => ?_
 refine region_list ?_
 refine q_list 0 6 [(65, iv x), (67, iv y), (68, iv id), (69, .agg #[.int .i64 x, .int .i64 y, .int .i64 id])] [(11, va), (12, vb), (69, .agg #[.int .i64 x, .int .i64 y, .int .i64 id])] ((0 < Try.prog.cellsOf 3) ∧ (CellOk (On w37) b2 (0 + 0) (.int .i64 x)) ∧ (0 < Try.prog.cellsOf 3) ∧ (CellOk (On w37) b2 (0 + 1) (.int .i64 y)) ∧ (CellOk (On w37) b4 (0) (.int .i64 id)) ∧ (∀ w, (Instr.build 92 #[(0, iv x), (1, iv y), (2, iv id)]).run Try.prog w = .ok (.agg #[.int .i64 x, .int .i64 y, .int .i64 id]) w) ∧ True) hA H ⟨by decide +kernel, by exact box_cell H 4 rfl 0, by decide +kernel, by exact box_cell H 4 rfl 1, by exact box_cell H 2 rfl 0, fun w => by kernel_rfl, tv⟩ fun a w65 hA H hG => ?_
 refine list_at 6 ?_; refine q_alloc 6 15 92 [.int .i64 0, .int .i64 0, .int .i64 0] [(11, va), (12, vb), (69, .agg #[.int .i64 x, .int .i64 y, .int .i64 id])] hA H fun b66 a w67 H hA hG hge_b66 => ?_
 clear hge_b66
 refine list_at 7 ?_; refine q_store 7 92 (.tmp 15) (.tmp 69) 0 b66 (0) 92 [.int .i64 0, .int .i64 0, .int .i64 0] [.int .i64 x, .int .i64 y, .int .i64 id] [.int .i64 x, .int .i64 y, .int .i64 id] (.agg #[.int .i64 x, .int .i64 y, .int .i64 id]) [(11, va), (12, vb), (15, pv b66)] hA H rfl rfl (Nat.le_of_ble_eq_true (by kernel_rfl)) rfl (fun v hv => by simp only [List.mem_cons, List.not_mem_nil, or_false] at hv; rcases hv with rfl | rfl | rfl; exact rfl; exact rfl; exact rfl) fun a w68 H hA hG => ?_
 replace H : Fr _ _ _ [.box b66 92 [.int .i64 x, .int .i64 y, .int .i64 id], .row 92 va la, .row 92 vb lb, .box b4 3 [.int .i64 id], .ro v9 (pclassesE l x y), .box b2 81 [.int .i64 x, .int .i64 y, sv]] := H
 refine list_end ?_
 refine hK64 _ _ ?_
 refine go_seq fun K69 hK69 => ?_
 have H0 := H
 have hM0 := H0.keepsL (va.ownBlock.toList ++ vb.ownBlock.toList) (by intro b_ hb_; simp only [List.mem_append, Option.mem_toList, Option.mem_def] at hb_; rcases hb_ with hb_ | hb_; all_goals first | exact Fr.in_ 1 rfl hb_ | exact Fr.in_ 2 rfl hb_)
 refine region_mix (ButL w68 (va.ownBlock.toList ++ vb.ownBlock.toList)) [0, 1, 2, 3, 4, 5, 6, 7, 8] 11 ?_
 replace H := H.drawn; have hD := ButL.drew w68 (va.ownBlock.toList ++ vb.ownBlock.toList)
 generalize ({ w68 with drawn := w68.drawn + 1 } : World) = w70 at H hD ⊢
 refine m_take (n := 7) [0, 1, 4, 5] #[true, true, false, false, true, true, false, false, false, false, false] [(71, .agg #[.int .i64 x, .int .i64 y, .int .i64 id]), (75, .agg #[.int .i64 x, .int .i64 y, .int .i64 id])] [(70, va), (71, .agg #[.int .i64 x, .int .i64 y, .int .i64 id]), (74, vb), (75, .agg #[.int .i64 x, .int .i64 y, .int .i64 id])] (TT ∧ ((Try.prog.info? 92).isSome = true ∧ RowOk (ButL w68 (va.ownBlock.toList ++ vb.ownBlock.toList)) b66 (0) (Try.prog.cellsOf 92) #[.int .i64 x, .int .i64 y, .int .i64 id]) ∧ TT ∧ ((Try.prog.info? 92).isSome = true ∧ RowOk (ButL w68 (va.ownBlock.toList ++ vb.ownBlock.toList)) b66 (0) (Try.prog.cellsOf 92) #[.int .i64 x, .int .i64 y, .int .i64 id]) ∧ True) hA hD ⟨tv, ⟨by kernel_rfl, by exact box_rowC (box_atL H0 (va.ownBlock.toList ++ vb.ownBlock.toList) 0 rfl (by intro hq; simp only [List.mem_append, Option.mem_toList, Option.mem_def] at hq; rcases hq with hq | hq; all_goals first | exact H0.apart 0 1 (by decide) rfl rfl rfl hq | exact H0.apart 0 2 (by decide) rfl rfl rfl hq)) 0 3⟩, tv, ⟨by kernel_rfl, by exact box_rowC (box_atL H0 (va.ownBlock.toList ++ vb.ownBlock.toList) 0 rfl (by intro hq; simp only [List.mem_append, Option.mem_toList, Option.mem_def] at hq; rcases hq with hq | hq; all_goals first | exact H0.apart 0 1 (by decide) rfl rfl rfl hq | exact H0.apart 0 2 (by decide) rfl rfl rfl hq)) 0 3⟩, tv⟩ fun a hA => ?_
 refine mix_gen fun M hM => ?_
 have hM87 : ∀ (a : Act) (w94 : World) (S : Stab) (b71 : Nat) (hge_b71 : w68.heap.size ≤ b71) (v75 : Value) (b81 : Nat) (hge_b81 : w68.heap.size ≤ b81) (v85 : Value), EnvOk 78 a (keepEnv [(6, v75), (77, v85)]) → Fr o w94 S [.box b66 92 [.int .i64 x, .int .i64 y, .int .i64 id], .row 92 v75 (la ++ [(x, (y, id))]), .row 92 v85 (lb ++ [(x, (y, id))]), .box b4 3 [.int .i64 id], .ro v9 (pclassesE l x y), .box b2 81 [.int .i64 x, .int .i64 y, sv]] → ButL w68 (va.ownBlock.toList ++ vb.ownBlock.toList) w94 → M 2 #[true, true, true, true, true, true, true, true, true, false, false] a w94 := by
   intro a w94 S b71 hge_b71 v75 b81 hge_b81 v85 hA H hD
   refine (hM _ _ _ _).2 ?_
   refine m_one 9 ?_; refine q_one 9 [] [(6, v75), (7, v85)] (TT ∧ True) hA H ⟨tv, tv⟩ fun a w95 H hA hG => ?_
   refine ⟨fun h => absurd h (by decide), ?_⟩
   refine m_one 10 ?_; refine q_one 10 [] [(6, v75), (7, v85), (8, .bool true)] (TT ∧ True) hA H ⟨tv, tv⟩ fun a w96 H hA hG => ?_
   refine ⟨fun h => absurd h (by decide), ?_⟩
   refine m_end ?_
   refine hK69 _ _ ?_
   refine go_ret_ ?_
   refine ret_three 6 7 8 v75 v85 (.bool true) hA ?_
   have h9a := (H.give 1 rfl); have h9b := (H.give 2 rfl)
   rw [show i = (l.length : Int) by omega] at hi hj; rw [hi] at h9a; rw [hj] at h9b
   exact ⟨_, rfl, cut_givT hb26 h9a h9b, H.below⟩
 have hM88 : ∀ (a : Act) (w97 : World) (S : Stab) (b71 : Nat) (hge_b71 : w68.heap.size ≤ b71) (v75 : Value) (b81 : Nat) (hge_b81 : w68.heap.size ≤ b81), EnvOk 78 a (keepEnv [(73, v75), (74, vb), (76, (.slice (some ⟨b81, 0, none⟩) 1 1))]) → Fr o w97 S [.box b81 92 [.int .i64 x, .int .i64 y, .int .i64 id], .box b66 92 [.int .i64 x, .int .i64 y, .int .i64 id], .row 92 v75 (la ++ [(x, (y, id))]), .row 92 vb lb, .box b4 3 [.int .i64 id], .ro v9 (pclassesE l x y), .box b2 81 [.int .i64 x, .int .i64 y, sv]] → ButL w68 (va.ownBlock.toList ++ vb.ownBlock.toList) w97 → M 4 #[true, true, true, true, true, true, true, false, false, false, false] a w97 := by
   intro a w97 S b71 hge_b71 v75 b81 hge_b81 hA H hD
   refine (hM _ _ _ _).2 ?_
   refine m_one 7 ?_; refine q_push 7 77 (.tmp 74) (.tmp 76) 3 0 b81 1 1 vb lb [(x, (y, id))] [.int .i64 x, .int .i64 y, .int .i64 id] [(73, v75)] hA H Try.E69 rfl rfl (by exact (RowRd.single (α := Int × Int × Int) ⟨[_], _, rfl, rfl, ⟨[_], _, rfl, rfl, rfl⟩⟩)) rfl (by simp only [List.length_cons, List.length_nil, List.length_append]; omega) (by decide) fun v98 a w99 H hA hG => ?_
   replace H : Fr _ _ _ [.box b66 92 [.int .i64 x, .int .i64 y, .int .i64 id], .row 92 v75 (la ++ [(x, (y, id))]), .row 92 v98 (lb ++ [(x, (y, id))]), .box b4 3 [.int .i64 id], .ro v9 (pclassesE l x y), .box b2 81 [.int .i64 x, .int .i64 y, sv]] := H.drop 0
   replace hD := hD.grown hG (fun b_ hb_ => .inl (by simp only [List.mem_append, Option.mem_toList, Option.mem_def]; first | exact .inl hb_ | exact .inr hb_))
   refine ⟨fun _ => hD, ?_⟩
   refine m_take (n := 2) [8] #[true, true, true, true, true, true, true, true, true, false, false] [] [(6, v75), (77, v98)] (TT ∧ True) hA hD ⟨tv, tv⟩ fun a hA => ?_
   exact (hM _ _ _ _).1 (hM87 _ _ _ b71 hge_b71 v75 b81 hge_b81 v98 (env_sub _ hA) H hD)
 have hM89 : ∀ (a : Act) (w100 : World) (S : Stab) (b71 : Nat) (hge_b71 : w68.heap.size ≤ b71) (v75 : Value), EnvOk 78 a (keepEnv [(73, v75), (74, vb), (75, .agg #[.int .i64 x, .int .i64 y, .int .i64 id])]) → Fr o w100 S [.box b66 92 [.int .i64 x, .int .i64 y, .int .i64 id], .row 92 v75 (la ++ [(x, (y, id))]), .row 92 vb lb, .box b4 3 [.int .i64 id], .ro v9 (pclassesE l x y), .box b2 81 [.int .i64 x, .int .i64 y, sv]] → ButL w68 (va.ownBlock.toList ++ vb.ownBlock.toList) w100 → M 5 #[true, true, true, true, true, true, false, false, false, false, false] a w100 := by
   intro a w100 S b71 hge_b71 v75 hA H hD
   refine (hM _ _ _ _).2 ?_
   refine m_one 6 ?_; refine q_lit 6 76 69 1 #[(0, .tmp 75)] 92 [(0, .agg #[.int .i64 x, .int .i64 y, .int .i64 id])] [.int .i64 x, .int .i64 y, .int .i64 id] [(73, v75), (74, vb)] hA H fun b101 a w102 H hA hG hge_b101 => ?_
   replace hge_b101 := Nat.le_trans hD.1 hge_b101
   replace hD := hD.below hG
   refine ⟨fun _ => hD, ?_⟩
   exact (hM _ _ _ _).1 (hM88 _ _ _ b71 hge_b71 v75 b101 hge_b101 (env_sub _ hA) H hD)
 have hM90 : ∀ (a : Act) (w103 : World) (S : Stab) (b71 : Nat) (hge_b71 : w68.heap.size ≤ b71) (b77 : Nat) (hge_b77 : w68.heap.size ≤ b77), EnvOk 78 a (keepEnv [(70, va), (72, (.slice (some ⟨b71, 0, none⟩) 1 1)), (74, vb), (76, (.slice (some ⟨b77, 0, none⟩) 1 1))]) → Fr o w103 S [.box b77 92 [.int .i64 x, .int .i64 y, .int .i64 id], .box b71 92 [.int .i64 x, .int .i64 y, .int .i64 id], .box b66 92 [.int .i64 x, .int .i64 y, .int .i64 id], .row 92 va la, .row 92 vb lb, .box b4 3 [.int .i64 id], .ro v9 (pclassesE l x y), .box b2 81 [.int .i64 x, .int .i64 y, sv]] → ButL w68 (va.ownBlock.toList ++ vb.ownBlock.toList) w103 → M 5 #[true, true, true, false, true, true, true, false, false, false, false] a w103 := by
   intro a w103 S b71 hge_b71 b77 hge_b77 hA H hD
   refine (hM _ _ _ _).2 ?_
   refine m_one 3 ?_; refine q_push 3 73 (.tmp 70) (.tmp 72) 3 1 b71 1 1 va la [(x, (y, id))] [.int .i64 x, .int .i64 y, .int .i64 id] [(74, vb), (76, (.slice (some ⟨b77, 0, none⟩) 1 1))] hA H Try.E69 rfl rfl (by exact (RowRd.single (α := Int × Int × Int) ⟨[_], _, rfl, rfl, ⟨[_], _, rfl, rfl, rfl⟩⟩)) rfl (by simp only [List.length_cons, List.length_nil, List.length_append]; omega) (by decide) fun v104 a w105 H hA hG => ?_
   replace H : Fr _ _ _ [.box b77 92 [.int .i64 x, .int .i64 y, .int .i64 id], .box b66 92 [.int .i64 x, .int .i64 y, .int .i64 id], .row 92 v104 (la ++ [(x, (y, id))]), .row 92 vb lb, .box b4 3 [.int .i64 id], .ro v9 (pclassesE l x y), .box b2 81 [.int .i64 x, .int .i64 y, sv]] := H.drop 1
   replace hD := hD.grown hG (fun b_ hb_ => .inl (by simp only [List.mem_append, Option.mem_toList, Option.mem_def]; first | exact .inl hb_ | exact .inr hb_))
   refine ⟨fun _ => hD, ?_⟩
   exact (hM _ _ _ _).1 (hM88 _ _ _ b71 hge_b71 v104 b77 hge_b77 (env_sub _ hA) H hD)
 have hM91 : ∀ (a : Act) (w106 : World) (S : Stab) (b71 : Nat) (hge_b71 : w68.heap.size ≤ b71), EnvOk 78 a (keepEnv [(70, va), (72, (.slice (some ⟨b71, 0, none⟩) 1 1)), (74, vb), (75, .agg #[.int .i64 x, .int .i64 y, .int .i64 id])]) → Fr o w106 S [.box b71 92 [.int .i64 x, .int .i64 y, .int .i64 id], .box b66 92 [.int .i64 x, .int .i64 y, .int .i64 id], .row 92 va la, .row 92 vb lb, .box b4 3 [.int .i64 id], .ro v9 (pclassesE l x y), .box b2 81 [.int .i64 x, .int .i64 y, sv]] → ButL w68 (va.ownBlock.toList ++ vb.ownBlock.toList) w106 → M 6 #[true, true, true, false, true, true, false, false, false, false, false] a w106 := by
   intro a w106 S b71 hge_b71 hA H hD
   refine (hM _ _ _ _).2 ?_
   refine m_many [3, 6] fun i_ hi_ => ?_
   simp only [List.mem_cons, List.not_mem_nil, or_false] at hi_
   rcases hi_ with rfl | rfl
   · skip
     refine q_push 3 73 (.tmp 70) (.tmp 72) 2 0 b71 1 1 va la [(x, (y, id))] [.int .i64 x, .int .i64 y, .int .i64 id] [(74, vb), (75, .agg #[.int .i64 x, .int .i64 y, .int .i64 id])] hA H Try.E69 rfl rfl (by exact (RowRd.single (α := Int × Int × Int) ⟨[_], _, rfl, rfl, ⟨[_], _, rfl, rfl, rfl⟩⟩)) rfl (by simp only [List.length_cons, List.length_nil, List.length_append]; omega) (by decide) fun v107 a w108 H hA hG => ?_
     replace H : Fr _ _ _ [.box b66 92 [.int .i64 x, .int .i64 y, .int .i64 id], .row 92 v107 (la ++ [(x, (y, id))]), .row 92 vb lb, .box b4 3 [.int .i64 id], .ro v9 (pclassesE l x y), .box b2 81 [.int .i64 x, .int .i64 y, sv]] := H.drop 0
     replace hD := hD.grown hG (fun b_ hb_ => .inl (by simp only [List.mem_append, Option.mem_toList, Option.mem_def]; first | exact .inl hb_ | exact .inr hb_))
     refine ⟨fun _ => hD, ?_⟩
     exact (hM _ _ _ _).1 (hM89 _ _ _ b71 hge_b71 v107 (env_sub _ hA) H hD)
   skip
   refine q_lit 6 76 69 1 #[(0, .tmp 75)] 92 [(0, .agg #[.int .i64 x, .int .i64 y, .int .i64 id])] [.int .i64 x, .int .i64 y, .int .i64 id] [(70, va), (72, (.slice (some ⟨b71, 0, none⟩) 1 1)), (74, vb)] hA H fun b109 a w110 H hA hG hge_b109 => ?_
   replace hge_b109 := Nat.le_trans hD.1 hge_b109
   replace hD := hD.below hG
   refine ⟨fun _ => hD, ?_⟩
   exact (hM _ _ _ _).1 (hM90 _ _ _ b71 hge_b71 b109 hge_b109 (env_sub _ hA) H hD)
 have hM92 : ∀ (a : Act) (w111 : World) (S : Stab) (b73 : Nat) (hge_b73 : w68.heap.size ≤ b73), EnvOk 78 a (keepEnv [(70, va), (71, .agg #[.int .i64 x, .int .i64 y, .int .i64 id]), (74, vb), (76, (.slice (some ⟨b73, 0, none⟩) 1 1))]) → Fr o w111 S [.box b73 92 [.int .i64 x, .int .i64 y, .int .i64 id], .box b66 92 [.int .i64 x, .int .i64 y, .int .i64 id], .row 92 va la, .row 92 vb lb, .box b4 3 [.int .i64 id], .ro v9 (pclassesE l x y), .box b2 81 [.int .i64 x, .int .i64 y, sv]] → ButL w68 (va.ownBlock.toList ++ vb.ownBlock.toList) w111 → M 6 #[true, true, false, false, true, true, true, false, false, false, false] a w111 := by
   intro a w111 S b73 hge_b73 hA H hD
   refine (hM _ _ _ _).2 ?_
   refine m_one 2 ?_; refine q_lit 2 72 69 1 #[(0, .tmp 71)] 92 [(0, .agg #[.int .i64 x, .int .i64 y, .int .i64 id])] [.int .i64 x, .int .i64 y, .int .i64 id] [(70, va), (74, vb), (76, (.slice (some ⟨b73, 0, none⟩) 1 1))] hA H fun b112 a w113 H hA hG hge_b112 => ?_
   replace hge_b112 := Nat.le_trans hD.1 hge_b112
   replace H : Fr _ _ _ [.box b73 92 [.int .i64 x, .int .i64 y, .int .i64 id], .box b112 92 [.int .i64 x, .int .i64 y, .int .i64 id], .box b66 92 [.int .i64 x, .int .i64 y, .int .i64 id], .row 92 va la, .row 92 vb lb, .box b4 3 [.int .i64 id], .ro v9 (pclassesE l x y), .box b2 81 [.int .i64 x, .int .i64 y, sv]] := H.sink 1 1
   replace hD := hD.below hG
   refine ⟨fun _ => hD, ?_⟩
   exact (hM _ _ _ _).1 (hM90 _ _ _ b112 hge_b112 b73 hge_b73 (env_sub _ hA) H hD)
 have hM93 : ∀ (a : Act) (w114 : World) (S : Stab), EnvOk 78 a (keepEnv [(70, va), (71, .agg #[.int .i64 x, .int .i64 y, .int .i64 id]), (74, vb), (75, .agg #[.int .i64 x, .int .i64 y, .int .i64 id])]) → Fr o w114 S [.box b66 92 [.int .i64 x, .int .i64 y, .int .i64 id], .row 92 va la, .row 92 vb lb, .box b4 3 [.int .i64 id], .ro v9 (pclassesE l x y), .box b2 81 [.int .i64 x, .int .i64 y, sv]] → ButL w68 (va.ownBlock.toList ++ vb.ownBlock.toList) w114 → M 7 #[true, true, false, false, true, true, false, false, false, false, false] a w114 := by
   intro a w114 S  hA H hD
   refine (hM _ _ _ _).2 ?_
   refine m_many [2, 6] fun i_ hi_ => ?_
   simp only [List.mem_cons, List.not_mem_nil, or_false] at hi_
   rcases hi_ with rfl | rfl
   · skip
     refine q_lit 2 72 69 1 #[(0, .tmp 71)] 92 [(0, .agg #[.int .i64 x, .int .i64 y, .int .i64 id])] [.int .i64 x, .int .i64 y, .int .i64 id] [(70, va), (74, vb), (75, .agg #[.int .i64 x, .int .i64 y, .int .i64 id])] hA H fun b115 a w116 H hA hG hge_b115 => ?_
     replace hge_b115 := Nat.le_trans hD.1 hge_b115
     replace hD := hD.below hG
     refine ⟨fun _ => hD, ?_⟩
     exact (hM _ _ _ _).1 (hM91 _ _ _ b115 hge_b115 (env_sub _ hA) H hD)
   skip
   refine q_lit 6 76 69 1 #[(0, .tmp 75)] 92 [(0, .agg #[.int .i64 x, .int .i64 y, .int .i64 id])] [.int .i64 x, .int .i64 y, .int .i64 id] [(70, va), (71, .agg #[.int .i64 x, .int .i64 y, .int .i64 id]), (74, vb)] hA H fun b117 a w118 H hA hG hge_b117 => ?_
   replace hge_b117 := Nat.le_trans hD.1 hge_b117
   replace hD := hD.below hG
   refine ⟨fun _ => hD, ?_⟩
   exact (hM _ _ _ _).1 (hM92 _ _ _ b117 hge_b117 (env_sub _ hA) H hD)
 exact hM93 _ _ _ (env_sub _ hA) H hD
def touchK (a b : Lk) (u v : Int) : Prop := (a.1 ≠ u ∧ a.1 ≠ v ∧ (a.1 = b.1 ∨ a.1 = b.2.1)) ∨ (a.2.1 ≠ u ∧ a.2.1 ≠ v ∧ (a.2.1 = b.1 ∨ a.2.1 = b.2.1))
instance (a b : Lk) (u v : Int) : Decidable (touchK a b u v) := by unfold touchK; infer_instance
abbrev lkAt (l : List Lk) (i : Int) : Lk := l.getD i.toNat (0, (0, 0))
def endP (l : List Lk) (i w : Int) : Prop := lkA l i = w ∨ lkB l i = w
theorem touch_iff {l : List Lk} {i j u v : Int} : touchK (lkAt l i) (lkAt l j) u v ↔ ∃ w, w ≠ u ∧ w ≠ v ∧ endP l i w ∧ endP l j w := by
 unfold touchK endP lkA lkB lkAt
 constructor
 · rintro (⟨h1, h2, h3⟩ | ⟨h1, h2, h3⟩)
   · exact ⟨_, h1, h2, .inl rfl, h3.imp Eq.symm Eq.symm⟩
   exact ⟨_, h1, h2, .inr rfl, h3.imp Eq.symm Eq.symm⟩
 rintro ⟨w, h1, h2, h3 | h3, h4⟩
 · subst h3; exact .inl ⟨h1, h2, h4.imp Eq.symm Eq.symm⟩
 subst h3; exact .inr ⟨h1, h2, h4.imp Eq.symm Eq.symm⟩
theorem touch_symm {l : List Lk} {i j u v : Int} (h : touchK (lkAt l i) (lkAt l j) u v) : touchK (lkAt l j) (lkAt l i) u v := by
 obtain ⟨w, h1, h2, h3, h4⟩ := touch_iff.1 h; exact touch_iff.2 ⟨w, h1, h2, h4, h3⟩
inductive Cn (l : List Lk) (u v : Int) : Int → Int → Prop
 | refl (i : Int) : Cn l u v i i
 | link {i j : Int} : 0 ≤ i → i < (l.length : Int) → 0 ≤ j → j < (l.length : Int) → touchK (lkAt l i) (lkAt l j) u v → Cn l u v i j
 | symm {i j : Int} : Cn l u v i j → Cn l u v j i
 | trans {i j k : Int} : Cn l u v i j → Cn l u v j k → Cn l u v i k
theorem joinR_eq {R : Int → Int} {x y : Int} : joinR R x y x = joinR R x y y := by unfold joinR; split <;> split <;> omega
theorem joinR_con {R : Int → Int} {x y a b : Int} (h : R a = R b) : joinR R x y a = joinR R x y b := by unfold joinR; rw [h]
theorem joinR_cases {R : Int → Int} {x y a b : Int} (h : joinR R x y a = joinR R x y b) : R a = R b ∨ ((R a = R x ∨ R a = R y) ∧ (R b = R x ∨ R b = R y)) := by
 unfold joinR at h
 split at h <;> split at h <;> omega
structure Cl9 (l : List Lk) (u v : Int) (D : Int → Int → Prop) (s : ClS) : Prop where
 sound : ∀ a b, s.1 a = s.1 b → Cn l u v a b
 fst : ∀ w f, s.2 w = some f → 0 ≤ f ∧ f < (l.length : Int) ∧ endP l f w ∧ w ≠ u ∧ w ≠ v
 done : ∀ k w, D k w → w ≠ u → w ≠ v → ∃ f, s.2 w = some f ∧ s.1 k = s.1 f
theorem cl9_step {l : List Lk} {u v i w : Int} {D : Int → Int → Prop} {s : ClS} (h : Cl9 l u v D s) (h0 : 0 ≤ i) (h1 : i < (l.length : Int)) (he : endP l i w) : Cl9 l u v (fun k z => D k z ∨ (k = i ∧ z = w)) (clStep u v i w s) := by
 unfold clStep
 split
 · rename_i q
   refine ⟨h.sound, h.fst, fun k z hd hu hv => ?_⟩
   rcases hd with hd | ⟨rfl, rfl⟩
   · exact h.done k z hd hu hv
   rcases q with q | q
   · exact (hu q).elim
   exact (hv q).elim
 rename_i q
 split
 · rename_i f hf
   obtain ⟨f0, f1, f2, f3, f4⟩ := h.fst w f hf
   have ht : Cn l u v f i := .link f0 f1 h0 h1 (touch_iff.2 ⟨w, f3, f4, f2, he⟩)
   refine ⟨fun a b hab => ?_, h.fst, fun k z hd hu hv => ?_⟩
   · rcases joinR_cases hab with e | ⟨e1, e2⟩
     · exact h.sound a b e
     have c1 : Cn l u v a f := by
       rcases e1 with e | e
       · exact h.sound a f e
       exact (h.sound a i e).trans ht.symm
     have c2 : Cn l u v b f := by
       rcases e2 with e | e
       · exact h.sound b f e
       exact (h.sound b i e).trans ht.symm
     exact c1.trans c2.symm
   rcases hd with hd | ⟨rfl, rfl⟩
   · obtain ⟨g, hg, e⟩ := h.done k z hd hu hv
     exact ⟨g, hg, joinR_con e⟩
   exact ⟨f, hf, joinR_eq.symm⟩
 rename_i hn
 refine ⟨h.sound, fun z f hz => ?_, fun k z hd hu hv => ?_⟩
 · have hz : (if z = w then some i else s.2 z) = some f := hz
   split at hz
   · rename_i e; cases hz; subst e; exact ⟨h0, h1, he, fun e => q (.inl e), fun e => q (.inr e)⟩
   exact h.fst z f hz
 show ∃ f, (if z = w then some i else s.2 z) = some f ∧ s.1 k = s.1 f
 rcases hd with hd | ⟨rfl, rfl⟩
 · obtain ⟨g, hg, e⟩ := h.done k z hd hu hv
   by_cases e2 : z = w
   · subst e2; rw [hn] at hg; cases hg
   rw [if_neg e2]; exact ⟨g, hg, e⟩
 rw [if_pos rfl]; exact ⟨_, rfl, rfl⟩
theorem cl9_run {l : List Lk} {u v : Int} : ∀ n : Nat, n ≤ l.length → Cl9 l u v (fun k w => 0 ≤ k ∧ k < (n : Int) ∧ endP l k w) (clRun u v l n)
 | 0, _ => ⟨fun a b h => by have h : a = b := h; subst h; exact .refl _, fun w f h => (by cases h), fun k w h => (by omega)⟩
 | n + 1, hn => by
   have h := cl9_step (cl9_step (cl9_run (u := u) (v := v) n (by omega)) (i := (n : Int)) (w := lkA l (n : Int)) (by omega) (by omega) (.inl rfl)) (i := (n : Int)) (w := lkB l (n : Int)) (by omega) (by omega) (.inr rfl)
   refine ⟨h.sound, h.fst, fun k w ⟨k0, k1, k2⟩ hu hv => h.done k w ?_ hu hv⟩
   by_cases e : k = (n : Int)
   · subst e
     rcases k2 with e | e
     · exact .inl (.inr ⟨rfl, e.symm⟩)
     exact .inr ⟨rfl, e.symm⟩
   exact .inl (.inl ⟨k0, by omega, k2⟩)
theorem clR_le (u v : Int) (l : List Lk) (j : Int) : clR u v l j ≤ j := (clB_run u v l l.length).le j
theorem clR_cn {u v : Int} {l : List Lk} {i j : Int} (h : clR u v l i = clR u v l j) : Cn l u v i j := (cl9_run l.length (Nat.le_refl _)).sound i j h
theorem cn_clR {u v : Int} {l : List Lk} {i j : Int} (h : Cn l u v i j) : clR u v l i = clR u v l j := by
 induction h with
 | refl => rfl
 | link a b c d e =>
   obtain ⟨w, h1, h2, h3, h4⟩ := touch_iff.1 e
   have h9 := cl9_run (u := u) (v := v) (l := l) l.length (Nat.le_refl _)
   obtain ⟨f, hf, e1⟩ := h9.done _ w ⟨a, b, h3⟩ h1 h2
   obtain ⟨f', hf', e2⟩ := h9.done _ w ⟨c, d, h4⟩ h1 h2
   rw [hf] at hf'; cases hf'
   exact e1.trans e2.symm
 | symm _ ih => exact ih.symm
 | trans _ _ h1 h2 => exact h1.trans h2
structure ClM (s : ClS) : Prop where
 pos : ∀ j, 0 ≤ j → 0 ≤ s.1 j
 idem : ∀ j, 0 ≤ j → s.1 (s.1 j) = s.1 j
 fs : ∀ w f, s.2 w = some f → 0 ≤ f
theorem clM_step {u v i w : Int} {s : ClS} (h0 : 0 ≤ i) (h : ClM s) : ClM (clStep u v i w s) := by
 unfold clStep
 split
 · exact h
 split
 · rename_i f hf
   have f0 := h.fs w f hf
   have a1 := h.pos f f0; have a2 := h.pos i h0; have a3 := h.idem f f0; have a4 := h.idem i h0
   refine ⟨fun j hj => ?_, fun j hj => ?_, h.fs⟩
   · show 0 ≤ joinR s.1 f i j
     unfold joinR
     have := h.pos j hj
     split <;> omega
   show joinR s.1 f i (joinR s.1 f i j) = joinR s.1 f i j
   have b1 := h.idem j hj
   unfold joinR
   by_cases q : s.1 j = max (s.1 f) (s.1 i)
   · rw [if_pos q]
     rcases Int.le_total (s.1 f) (s.1 i) with e | e
     · rw [Int.min_eq_left e, a3]; split <;> rfl
     rw [Int.min_eq_right e, a4]; split <;> rfl
   rw [if_neg q, b1, if_neg q]
 refine ⟨h.pos, h.idem, fun z f hz => ?_⟩
 have hz : (if z = w then some i else s.2 z) = some f := hz
 split at hz
 · cases hz; exact h0
 exact h.fs z f hz
theorem clM_run (u v : Int) (l : List Lk) : ∀ i : Nat, ClM (clRun u v l i)
 | 0 => ⟨fun j h => h, fun j h => rfl, fun w f h => by cases h⟩
 | i + 1 => clM_step (by omega) (clM_step (by omega) (clM_run u v l i))
theorem clR_pos {u v : Int} {l : List Lk} {j : Int} (h : 0 ≤ j) : 0 ≤ clR u v l j := (clM_run u v l l.length).pos j h
theorem clR_idem {u v : Int} {l : List Lk} {j : Int} (h : 0 ≤ j) : clR u v l (clR u v l j) = clR u v l j := (clM_run u v l l.length).idem j h
structure Bf (l : List Lk) (u v i k t : Int) (c : List Int) : Prop where
 nd : c.Nodup
 fst : i ∈ c
 cn : ∀ x ∈ c, 0 ≤ x ∧ x < (l.length : Int) ∧ Cn l u v i x
 k0 : 0 ≤ k
 kn : k ≤ (c.length : Int)
 cl : ∀ q : Nat, (q : Int) < k → ∀ j, 0 ≤ j → j < (l.length : Int) → touchK (lkAt l (c.getD q 0)) (lkAt l j) u v → j ∈ c
 ct : ∀ j, 0 ≤ j → j < t → touchK (lkAt l (c.getD k.toNat 0)) (lkAt l j) u v → j ∈ c
section
variable {l : List Lk} {u v i k t : Int} {c : List Int}
theorem bf_start (h0 : 0 ≤ i) (h1 : i < (l.length : Int)) : Bf l u v i 0 0 [i] :=
 ⟨by simp, by simp, fun x hx => by rw [List.mem_singleton.1 hx]; exact ⟨h0, h1, .refl _⟩, Int.le_refl _, by simp, fun q hq => by omega, fun j a b => by omega⟩
theorem bf_len (h : Bf l u v i k t c) : c.length ≤ l.length := by
 have := nodup_le (m := upto (l.length : Int)) h.nd fun x hx => mem_upto.2 ⟨(h.cn x hx).1, (h.cn x hx).2.1⟩
 have h2 := upto_len (l.length : Int)
 omega
theorem bf_next (h : Bf l u v i k t c) (hk : k < (c.length : Int)) (ht : (l.length : Int) ≤ t) : Bf l u v i (k + 1) 0 c :=
 ⟨h.nd, h.fst, h.cn, by have := h.k0; omega, by omega, fun q hq j a b e => by
   have := h.k0
   by_cases z : (q : Int) = k
   · exact h.ct j a (by omega) (by rw [show k.toNat = q by omega]; exact e)
   exact h.cl q (by omega) j a b e, fun j a b => by omega⟩
theorem bf_skip (h : Bf l u v i k t c) (h0 : 0 ≤ t) (hs : t ∈ c ∨ ¬ touchK (lkAt l (c.getD k.toNat 0)) (lkAt l t) u v) : Bf l u v i k (t + 1) c :=
 ⟨h.nd, h.fst, h.cn, h.k0, h.kn, h.cl, fun j a b e => by
   by_cases z : j = t
   · subst z; rcases hs with hs | hs
     · exact hs
     exact (hs e).elim
   exact h.ct j a (by omega) e⟩
theorem bf_push (h : Bf l u v i k t c) (hk : k < (c.length : Int)) (h0 : 0 ≤ t) (h1 : t < (l.length : Int)) (hn : t ∉ c) (ht : touchK (lkAt l (c.getD k.toNat 0)) (lkAt l t) u v) : Bf l u v i k (t + 1) (c ++ [t]) := by
 have k0 := h.k0
 have hg : ∀ q : Nat, q < c.length → (c ++ [t]).getD q 0 = c.getD q 0 := fun q hq => by rw [List.getD_eq_getElem?_getD, List.getD_eq_getElem?_getD, List.getElem?_append_left hq]
 have hm := h.cn _ (getD_mem (l := c) (i := k.toNat) (d := 0) (by omega))
 refine ⟨?_, List.mem_append_left _ h.fst, fun x hx => ?_, h.k0, by rw [List.length_append]; have := h.kn; simp; omega, fun q hq j a b e => ?_, fun j a b e => ?_⟩
 · rw [List.nodup_append]; exact ⟨h.nd, by simp, fun x hx y hy => by rw [List.mem_singleton.1 hy]; exact fun e => hn (e ▸ hx)⟩
 · rcases List.mem_append.1 hx with hx | hx
   · exact h.cn x hx
   rw [List.mem_singleton.1 hx]; exact ⟨h0, h1, hm.2.2.trans (.link hm.1 hm.2.1 h0 h1 ht)⟩
 · rw [hg q (by omega)] at e; exact List.mem_append_left _ (h.cl q hq j a b e)
 rw [hg k.toNat (by omega)] at e
 by_cases z : j = t
 · subst z; simp
 exact List.mem_append_left _ (h.ct j a (by omega) e)
theorem bf_end (h : Bf l u v i k t c) (hk : (c.length : Int) ≤ k) : ∀ j, 0 ≤ j → j < (l.length : Int) → (j ∈ c ↔ clR u v l j = clR u v l i) := by
 have hcl : ∀ x ∈ c, ∀ j, 0 ≤ j → j < (l.length : Int) → touchK (lkAt l x) (lkAt l j) u v → j ∈ c := by
   intro x hx j a b e
   obtain ⟨q, hq, rfl⟩ := mem_getD.1 hx
   exact h.cl q (by omega) j a b e
 have key : ∀ x y, Cn l u v x y → (x ∈ c ↔ y ∈ c) := by
   intro x y hxy
   induction hxy with
   | refl => exact Iff.rfl
   | link a b c9 d e => exact ⟨fun hx => hcl _ hx _ c9 d e, fun hy => hcl _ hy _ a b (touch_symm e)⟩
   | symm _ ih => exact ih.symm
   | trans _ _ h1 h2 => exact h1.trans h2
 intro j a b
 constructor
 · intro hj; exact (cn_clR (h.cn j hj).2.2).symm
 intro e; exact (key _ _ (clR_cn e)).2 h.fst
structure Dn (l : List Lk) (u v i : Int) (d : List Int) (out : List (List Int)) : Prop where
 nd : d.Nodup
 mem : ∀ x, x ∈ d ↔ (0 ≤ x ∧ x < (l.length : Int)) ∧ clR u v l x < i
 out : out = (rootsTo (clR u v l) i).map fun r => (upto (l.length : Int)).filter fun j => decide (clR u v l j = r)
theorem dn_start : Dn l u v 0 [] [] := ⟨by simp, fun x => by constructor; · intro h; cases h
                                                             · intro h; have := clR_pos (u := u) (v := v) (l := l) h.1.1; omega, rfl⟩
theorem dn_len {d : List Int} {out : List (List Int)} (h : Dn l u v i d out) : d.length ≤ l.length := by
 have := nodup_le (m := upto (l.length : Int)) h.nd fun x hx => mem_upto.2 ((h.mem x).1 hx).1
 have h2 := upto_len (l.length : Int)
 omega
theorem roots_snoc {R : Int → Int} (h0 : 0 ≤ i) : rootsTo R (i + 1) = rootsTo R i ++ (if R i = i then [i] else []) := by
 unfold rootsTo; rw [upto_succ h0, List.filter_append, List.filter_cons, List.filter_nil]
 by_cases h : R i = i
 · rw [if_pos (decide_eq_true h), if_pos h]
 rw [if_neg (by rw [decide_eq_false h]; decide), if_neg h]
theorem dn_skip {d : List Int} {out : List (List Int)} (h : Dn l u v i d out) (h0 : 0 ≤ i) (hi : i ∈ d) : Dn l u v (i + 1) d out := by
 have hr := ((h.mem i).1 hi).2
 have hid := clR_idem (u := u) (v := v) (l := l) h0
 refine ⟨h.nd, fun x => ?_, ?_⟩
 · rw [h.mem x]
   refine and_congr_right fun hx => ⟨fun q => by omega, fun q => ?_⟩
   have := clR_idem (u := u) (v := v) (l := l) hx.1
   rcases Int.lt_or_eq_of_le (show clR u v l x ≤ i by omega) with e | e
   · exact e
   rw [e] at this; omega
 rw [roots_snoc h0, if_neg (by omega), List.append_nil]; exact h.out
theorem dn_root {d : List Int} {out : List (List Int)} (h : Dn l u v i d out) (h0 : 0 ≤ i) (h1 : i < (l.length : Int)) (hi : i ∉ d) : clR u v l i = i := by
 have h2 := clR_le u v l i
 have h3 : ¬ clR u v l i < i := fun q => hi ((h.mem i).2 ⟨⟨h0, h1⟩, q⟩)
 omega
theorem dn_add {d c : List Int} {out : List (List Int)} {k t : Int} (h : Dn l u v i d out) (h0 : 0 ≤ i) (h1 : i < (l.length : Int)) (hi : i ∉ d) (hb : Bf l u v i k t c) (hk : (c.length : Int) ≤ k) :
   Dn l u v (i + 1) (d ++ c) (out ++ [(upto (l.length : Int)).filter fun x => decide (x ∈ c)]) := by
 have hr := dn_root h h0 h1 hi
 have he := bf_end hb hk
 refine ⟨?_, fun x => ?_, ?_⟩
 · rw [List.nodup_append]
   refine ⟨h.nd, hb.nd, fun x hx y hy e => ?_⟩
   subst e
   have := (h.mem x).1 hx
   have h5 := hb.cn x hy
   have h6 := (he x h5.1 h5.2.1).1 hy
   omega
 · rw [List.mem_append, h.mem x]
   constructor
   · rintro (q | q)
     · exact ⟨q.1, by omega⟩
     have h5 := hb.cn x q
     have h6 := (he x h5.1 h5.2.1).1 q
     exact ⟨⟨h5.1, h5.2.1⟩, by omega⟩
   rintro ⟨q1, q2⟩
   by_cases e : clR u v l x = i
   · exact .inr ((he x q1.1 q1.2).2 (by omega))
   exact .inl ⟨q1, by omega⟩
 rw [roots_snoc h0, if_pos hr, List.map_append, ← h.out]
 congr 1
 rw [List.map_cons, List.map_nil]
 congr 1
 refine List.filter_congr fun x hx => ?_
 have := mem_upto.1 hx
 rw [decide_eq_decide, he x this.1 this.2, hr]
theorem dn_end {d : List Int} {out : List (List Int)} (h : Dn l u v (l.length : Int) d out) : out = classesL l u v := h.out
theorem upfil_snoc {c : List Int} {j : Int} (h0 : 0 ≤ j) : (upto (j + 1)).filter (fun x => decide (x ∈ c)) = (upto j).filter (fun x => decide (x ∈ c)) ++ (if j ∈ c then [j] else []) := by
 rw [upto_succ h0, List.filter_append, List.filter_cons, List.filter_nil]
 by_cases h : j ∈ c
 · rw [if_pos (decide_eq_true h), if_pos h]
 rw [if_neg (by rw [decide_eq_false h]; decide), if_neg h]
end
theorem Fr.rowBox {α : Type} [Data α] {w0 : Orig} {w : World} {S : Stab} {rs : List Res} (h : Fr w0 w S rs) (j : Nat) {b : Nat} {e : TypeId} {cs : List Value} (hj : rs[j]? = some (.box b e cs)) {l : List α} (hrd : RowRd S w cs l) {n : Nat} (hn : n = l.length) (hsz : n ≤ 2147483647) :
   Fr w0 w S (rs.set j (.row e (.slice (some ⟨b, 0, none⟩) n n) l)) := by
 subst hn
 have hb : w.heap[b]? = some (.cells cs.toArray e (0, 0)) := h.ok _ (List.mem_of_getElem? hj)
 have hrow : Own S w e (.slice (some ⟨b, 0, none⟩) l.length l.length) l := by
   refine ⟨cs, ⟨hrd.1, .inr ⟨b, l.length, _, rfl, Nat.zero_le _, hb, Nat.le_refl _, by simp only [maxLen]; omega, by simpa using hrd.1, ?_⟩⟩, hrd⟩
   simp only [List.toList_toArray]
   rw [← hrd.1, List.take_length]
 exact h.set j hj _ hrow ⟨rfl, rfl, rfl, Nat.le_refl _, fun _ _ _ => rfl⟩ (fun b' hb' => .inl hb')
theorem touchK_b (b c : Lk) (u v : Int) : (!decide (b.1 = u) && !decide (b.1 = v) && (decide (b.1 = c.1) || decide (b.1 = c.2.1)) || !decide (b.2.1 = u) && !decide (b.2.1 = v) && (decide (b.2.1 = c.1) || decide (b.2.1 = c.2.1))) = decide (touchK b c u v) := by
 rw [Bool.eq_iff_iff, decide_eq_true_eq]
 simp only [Bool.or_eq_true, Bool.and_eq_true, Bool.not_eq_true', decide_eq_true_eq, decide_eq_false_iff_not, and_assoc, touchK, ne_eq]
theorem Try.E66 : Elem Try.prog 66 113 3 24 := elem_of (z := .agg #[.int .i64 0, .int .i64 0, .int .i64 0]) Try.underlying66 (by kernel_rfl) rfl (by decide)
theorem Try.eq113 (a b c d e f : Int) : EqOk Try.prog 113 (.agg #[.int .i64 a, .int .i64 b, .int .i64 c]) (.agg #[.int .i64 d, .int .i64 e, .int .i64 f]) (decide (a = d) && (decide (b = e) && decide (c = f))) := by
 intro w
 have hS : Try.prog.underlying 113 = some (.struct (Try.prog.fieldsOf 113)) := by kernel_rfl
 show (Op.equalIn (9999 + 1) 113 _ _).run Try.prog w = _
 rw [run_equalIn_agg w 9999 113 _ _ hS (by kernel_rfl)]
 simp only [Program.fieldsOf, Try.underlying113]
 have u3 := Try.underlying3
 have a3 := Try.isAgg3
 have z3 := Try.sizeOf3
 go_simp
 by_cases h1 : a = d <;> by_cases h2 : b = e <;> by_cases h3 : c = f <;> simp [h1, h2, h3]
theorem touch_any (b c : Int × Int × Int) (x y : Int) (w : World) :
 Calls Try.prog 89 [.agg #[.int .i64 b.1, .int .i64 b.2.1, .int .i64 b.2.2], .agg #[.int .i64 c.1, .int .i64 c.2.1, .int .i64 c.2.2], .int .i64 x, .int .i64 y].toArray w (Ans (.bool (decide (touchK b c x y))) w) := by
 refine enter Try.f89 61 Try.func89 fun a hA => ?_
 replace hA := env_sub [(0, .agg #[.int .i64 b.1, .int .i64 b.2.1, .int .i64 b.2.2]), (1, .agg #[.int .i64 c.1, .int .i64 c.2.1, .int .i64 c.2.2]), (2, iv x), (3, iv y)] hA
 have H := Fr.start (org w)
 refine go_seq fun K1 hK1 => ?_
 refine region_list ?_
 refine list_at 0 ?_; refine q_box 0 4 113 (.tmp 0) (.agg #[.int .i64 b.1, .int .i64 b.2.1, .int .i64 b.2.2]) [.int .i64 b.1, .int .i64 b.2.1, .int .i64 b.2.2] [(1, .agg #[.int .i64 c.1, .int .i64 c.2.1, .int .i64 c.2.2]), (2, iv x), (3, iv y)] hA H fun b2 a w3 H hA hG hge_b2 => ?_
 clear hge_b2
 refine list_at 1 ?_; refine q_box 1 5 113 (.tmp 1) (.agg #[.int .i64 c.1, .int .i64 c.2.1, .int .i64 c.2.2]) [.int .i64 c.1, .int .i64 c.2.1, .int .i64 c.2.2] [(2, iv x), (3, iv y), (4, pv b2)] hA H fun b4 a w5 H hA hG hge_b4 => ?_
 clear hge_b4
 refine q_list 2 1 [] [(2, iv x), (3, iv y), (4, pv b2), (5, pv b4)] (TT ∧ True) hA H ⟨tv, tv⟩ fun a w6 hA H hG => ?_
 refine list_end ?_
 refine hK1 _ _ ?_
 refine go_seq fun K7 hK7 => ?_
 refine q_reg [(11, iv b.1), (16, iv b.1), (22, iv b.1), (24, iv c.1), (28, iv b.1), (30, iv c.2.1)] [(2, iv x), (3, iv y), (4, pv b2), (5, pv b4), (9, .bool (((!decide (b.1 = x)) && (!decide (b.1 = y))) && ((decide (b.1 = c.1)) || (decide (b.1 = c.2.1)))))] ((0 < Try.prog.cellsOf 3) ∧ (CellOk (On w6) b2 (0 + 0) (.int .i64 b.1)) ∧ TT ∧ TT ∧ TT ∧ ((!decide (b.1 = x)) = true → 0 < Try.prog.cellsOf 3) ∧ ((!decide (b.1 = x)) = true → CellOk (On w6) b2 (0 + 0) (.int .i64 b.1)) ∧ ((!decide (b.1 = x)) = true → True) ∧ ((!decide (b.1 = x)) = true → True) ∧ TT ∧ TT ∧ (((!decide (b.1 = x)) && (!decide (b.1 = y))) = true → 0 < Try.prog.cellsOf 3) ∧ (((!decide (b.1 = x)) && (!decide (b.1 = y))) = true → CellOk (On w6) b2 (0 + 0) (.int .i64 b.1)) ∧ (((!decide (b.1 = x)) && (!decide (b.1 = y))) = true → 0 < Try.prog.cellsOf 3) ∧ (((!decide (b.1 = x)) && (!decide (b.1 = y))) = true → CellOk (On w6) b4 (0 + 0) (.int .i64 c.1)) ∧ (((!decide (b.1 = x)) && (!decide (b.1 = y))) = true → True) ∧ (((!decide (b.1 = x)) && (!decide (b.1 = y))) = true → True) ∧ (((!decide (b.1 = x)) && (!decide (b.1 = y))) = true → (decide (b.1 = c.1)) = false → 0 < Try.prog.cellsOf 3) ∧ (((!decide (b.1 = x)) && (!decide (b.1 = y))) = true → (decide (b.1 = c.1)) = false → CellOk (On w6) b2 (0 + 0) (.int .i64 b.1)) ∧ (((!decide (b.1 = x)) && (!decide (b.1 = y))) = true → (decide (b.1 = c.1)) = false → 0 < Try.prog.cellsOf 3) ∧ (((!decide (b.1 = x)) && (!decide (b.1 = y))) = true → (decide (b.1 = c.1)) = false → CellOk (On w6) b4 (0 + 1) (.int .i64 c.2.1)) ∧ (((!decide (b.1 = x)) && (!decide (b.1 = y))) = true → (decide (b.1 = c.1)) = false → True) ∧ (((!decide (b.1 = x)) && (!decide (b.1 = y))) = true → True) ∧ TT ∧ TT ∧ True) hA H ⟨by decide +kernel, by exact box_cell H 1 rfl 0, tv, tv, tv, fun _ => by decide +kernel, fun _ => by exact box_cell H 1 rfl 0, fun _ => tv, fun _ => tv, tv, tv, fun _ => by decide +kernel, fun _ => by exact box_cell H 1 rfl 0, fun _ => by decide +kernel, fun _ => by exact box_cell H 0 rfl 0, fun _ => tv, fun _ => tv, fun _ _ => by decide +kernel, fun _ _ => by exact box_cell H 1 rfl 0, fun _ _ => by decide +kernel, fun _ _ => by exact box_cell H 0 rfl 1, fun _ _ => tv, fun _ => tv, tv, tv, tv⟩ fun a w8 hA H hG => ?_
 refine hK7 _ _ ?_
 refine go_seq fun K9 hK9 => ?_
 refine q_reg [(37, iv b.2.1), (42, iv b.2.1), (48, iv b.2.1), (50, iv c.1), (54, iv b.2.1), (56, iv c.2.1)] [(8, .bool ((((!decide (b.1 = x)) && (!decide (b.1 = y))) && ((decide (b.1 = c.1)) || (decide (b.1 = c.2.1)))) || (((!decide (b.2.1 = x)) && (!decide (b.2.1 = y))) && ((decide (b.2.1 = c.1)) || (decide (b.2.1 = c.2.1))))))] (TT ∧ TT ∧ ((((!decide (b.1 = x)) && (!decide (b.1 = y))) && ((decide (b.1 = c.1)) || (decide (b.1 = c.2.1)))) = false → 0 < Try.prog.cellsOf 3) ∧ ((((!decide (b.1 = x)) && (!decide (b.1 = y))) && ((decide (b.1 = c.1)) || (decide (b.1 = c.2.1)))) = false → CellOk (On w8) b2 (0 + 1) (.int .i64 b.2.1)) ∧ ((((!decide (b.1 = x)) && (!decide (b.1 = y))) && ((decide (b.1 = c.1)) || (decide (b.1 = c.2.1)))) = false → True) ∧ ((((!decide (b.1 = x)) && (!decide (b.1 = y))) && ((decide (b.1 = c.1)) || (decide (b.1 = c.2.1)))) = false → True) ∧ ((((!decide (b.1 = x)) && (!decide (b.1 = y))) && ((decide (b.1 = c.1)) || (decide (b.1 = c.2.1)))) = false → True) ∧ ((((!decide (b.1 = x)) && (!decide (b.1 = y))) && ((decide (b.1 = c.1)) || (decide (b.1 = c.2.1)))) = false → (!decide (b.2.1 = x)) = true → 0 < Try.prog.cellsOf 3) ∧ ((((!decide (b.1 = x)) && (!decide (b.1 = y))) && ((decide (b.1 = c.1)) || (decide (b.1 = c.2.1)))) = false → (!decide (b.2.1 = x)) = true → CellOk (On w8) b2 (0 + 1) (.int .i64 b.2.1)) ∧ ((((!decide (b.1 = x)) && (!decide (b.1 = y))) && ((decide (b.1 = c.1)) || (decide (b.1 = c.2.1)))) = false → (!decide (b.2.1 = x)) = true → True) ∧ ((((!decide (b.1 = x)) && (!decide (b.1 = y))) && ((decide (b.1 = c.1)) || (decide (b.1 = c.2.1)))) = false → (!decide (b.2.1 = x)) = true → True) ∧ ((((!decide (b.1 = x)) && (!decide (b.1 = y))) && ((decide (b.1 = c.1)) || (decide (b.1 = c.2.1)))) = false → True) ∧ ((((!decide (b.1 = x)) && (!decide (b.1 = y))) && ((decide (b.1 = c.1)) || (decide (b.1 = c.2.1)))) = false → True) ∧ ((((!decide (b.1 = x)) && (!decide (b.1 = y))) && ((decide (b.1 = c.1)) || (decide (b.1 = c.2.1)))) = false → ((!decide (b.2.1 = x)) && (!decide (b.2.1 = y))) = true → 0 < Try.prog.cellsOf 3) ∧ ((((!decide (b.1 = x)) && (!decide (b.1 = y))) && ((decide (b.1 = c.1)) || (decide (b.1 = c.2.1)))) = false → ((!decide (b.2.1 = x)) && (!decide (b.2.1 = y))) = true → CellOk (On w8) b2 (0 + 1) (.int .i64 b.2.1)) ∧ ((((!decide (b.1 = x)) && (!decide (b.1 = y))) && ((decide (b.1 = c.1)) || (decide (b.1 = c.2.1)))) = false → ((!decide (b.2.1 = x)) && (!decide (b.2.1 = y))) = true → 0 < Try.prog.cellsOf 3) ∧ ((((!decide (b.1 = x)) && (!decide (b.1 = y))) && ((decide (b.1 = c.1)) || (decide (b.1 = c.2.1)))) = false → ((!decide (b.2.1 = x)) && (!decide (b.2.1 = y))) = true → CellOk (On w8) b4 (0 + 0) (.int .i64 c.1)) ∧ ((((!decide (b.1 = x)) && (!decide (b.1 = y))) && ((decide (b.1 = c.1)) || (decide (b.1 = c.2.1)))) = false → ((!decide (b.2.1 = x)) && (!decide (b.2.1 = y))) = true → True) ∧ ((((!decide (b.1 = x)) && (!decide (b.1 = y))) && ((decide (b.1 = c.1)) || (decide (b.1 = c.2.1)))) = false → ((!decide (b.2.1 = x)) && (!decide (b.2.1 = y))) = true → True) ∧ ((((!decide (b.1 = x)) && (!decide (b.1 = y))) && ((decide (b.1 = c.1)) || (decide (b.1 = c.2.1)))) = false → ((!decide (b.2.1 = x)) && (!decide (b.2.1 = y))) = true → (decide (b.2.1 = c.1)) = false → 0 < Try.prog.cellsOf 3) ∧ ((((!decide (b.1 = x)) && (!decide (b.1 = y))) && ((decide (b.1 = c.1)) || (decide (b.1 = c.2.1)))) = false → ((!decide (b.2.1 = x)) && (!decide (b.2.1 = y))) = true → (decide (b.2.1 = c.1)) = false → CellOk (On w8) b2 (0 + 1) (.int .i64 b.2.1)) ∧ ((((!decide (b.1 = x)) && (!decide (b.1 = y))) && ((decide (b.1 = c.1)) || (decide (b.1 = c.2.1)))) = false → ((!decide (b.2.1 = x)) && (!decide (b.2.1 = y))) = true → (decide (b.2.1 = c.1)) = false → 0 < Try.prog.cellsOf 3) ∧ ((((!decide (b.1 = x)) && (!decide (b.1 = y))) && ((decide (b.1 = c.1)) || (decide (b.1 = c.2.1)))) = false → ((!decide (b.2.1 = x)) && (!decide (b.2.1 = y))) = true → (decide (b.2.1 = c.1)) = false → CellOk (On w8) b4 (0 + 1) (.int .i64 c.2.1)) ∧ ((((!decide (b.1 = x)) && (!decide (b.1 = y))) && ((decide (b.1 = c.1)) || (decide (b.1 = c.2.1)))) = false → ((!decide (b.2.1 = x)) && (!decide (b.2.1 = y))) = true → (decide (b.2.1 = c.1)) = false → True) ∧ ((((!decide (b.1 = x)) && (!decide (b.1 = y))) && ((decide (b.1 = c.1)) || (decide (b.1 = c.2.1)))) = false → ((!decide (b.2.1 = x)) && (!decide (b.2.1 = y))) = true → True) ∧ ((((!decide (b.1 = x)) && (!decide (b.1 = y))) && ((decide (b.1 = c.1)) || (decide (b.1 = c.2.1)))) = false → True) ∧ TT ∧ TT ∧ True) hA H ⟨tv, tv, fun _ => by decide +kernel, fun _ => by exact box_cell H 1 rfl 1, fun _ => tv, fun _ => tv, fun _ => tv, fun _ _ => by decide +kernel, fun _ _ => by exact box_cell H 1 rfl 1, fun _ _ => tv, fun _ _ => tv, fun _ => tv, fun _ => tv, fun _ _ => by decide +kernel, fun _ _ => by exact box_cell H 1 rfl 1, fun _ _ => by decide +kernel, fun _ _ => by exact box_cell H 0 rfl 0, fun _ _ => tv, fun _ _ => tv, fun _ _ _ => by decide +kernel, fun _ _ _ => by exact box_cell H 1 rfl 1, fun _ _ _ => by decide +kernel, fun _ _ _ => by exact box_cell H 0 rfl 1, fun _ _ _ => tv, fun _ _ => tv, fun _ => tv, tv, tv, tv⟩ fun a w10 hA H hG => ?_
 refine hK9 _ _ ?_
 refine go_ret_ ?_
 refine ret_one 8 (.bool ((((!decide (b.1 = x)) && (!decide (b.1 = y))) && ((decide (b.1 = c.1)) || (decide (b.1 = c.2.1)))) || (((!decide (b.2.1 = x)) && (!decide (b.2.1 = y))) && ((decide (b.2.1 = c.1)) || (decide (b.2.1 = c.2.1)))))) hA ?_
 exact ans_b' (touchK_b b c x y) H.below
theorem mem_mergeL {a b : List Int} (ha : Asc a) (hb : Asc b) : Asc (mergeL a b 1) ∧ ∀ x, x ∈ mergeL a b 1 ↔ x ∈ a ∨ x ∈ b := by
 obtain ⟨h1, h2⟩ := mgF_spec 1 (a.length + b.length) a b (Nat.le_refl _) ha hb
 refine ⟨h1, fun x => (h2 x).trans ⟨fun h => ?_, fun h => .inl ⟨rfl, h⟩⟩⟩
 rcases h with h | h
 · exact h.2
 exact .inl h.1
structure RvI (l : List Lk) (i : Int) (e : List Int) : Prop where
 asc : Asc e
 mem : ∀ x, x ∈ e ↔ x ∈ endsK (l.take i.toNat)
 len : (e.length : Int) ≤ 2 * i
theorem rv_start (l : List Lk) : RvI l 0 [] := ⟨.nil, fun x => by simp [endsK], by simp⟩
theorem rv_len1 {l : List Lk} {i a : Int} {e : List Int} (h : RvI l i e) : ((mergeL e [a] 1).length : Int) ≤ 2 * i + 1 := by
 have := mergeL_len e [a] 1; have := h.len; simp only [List.length_cons, List.length_nil] at *; omega
theorem rv_step {l : List Lk} {i : Int} {e : List Int} (h : RvI l i e) (h0 : 0 ≤ i) (h1 : i < (l.length : Int)) : RvI l (i + 1) (mergeL (mergeL e [min (lkA l i) (lkB l i)] 1) [max (lkA l i) (lkB l i)] 1) := by
 obtain ⟨a1, a2⟩ := mem_mergeL h.asc (show Asc [min (lkA l i) (lkB l i)] from List.pairwise_singleton _ _)
 obtain ⟨b1, b2⟩ := mem_mergeL a1 (show Asc [max (lkA l i) (lkB l i)] from List.pairwise_singleton _ _)
 refine ⟨b1, fun x => ?_, ?_⟩
 · rw [b2, a2, h.mem, endsK_snoc h0 h1, List.mem_append]
   simp only [List.mem_cons, List.not_mem_nil, or_false]
   rw [or_assoc]; exact or_congr_right (by omega)
 have := mergeL_len (mergeL e [min (lkA l i) (lkB l i)] 1) [max (lkA l i) (lkB l i)] 1
 have := rv_len1 (a := min (lkA l i) (lkB l i)) h
 simp only [List.length_cons, List.length_nil] at *; omega
theorem rv_end {l : List Lk} {i : Int} {e : List Int} (h : RvI l i e) (hi : (l.length : Int) ≤ i) : e = vertsL l := by
 obtain ⟨h1, h2⟩ := compact_sort (endsK l)
 refine asc_ext h.asc h1 fun x => ?_
 have h3 : x ∈ vertsL l ↔ x ∈ endsK l := h2 x
 rw [h.mem, h3, List.take_of_length_le (by omega)]
def ringR (l : List Lk) : Bool := decide (2 ≤ (l.length : Int)) && decide (((vertsL l).length : Int) = (l.length : Int))
def spC (l : List Lk) (u v : Int) (cs : List (List Int)) : List (Int × Int × List Int) := candC l u v cs
def spV (l : List Lk) (u : Int) (vs : List Int) : List (Int × Int × List Int) := candV l u vs
def spU (l : List Lk) : List Int → List (Int × Int × List Int)
 | [] => []
 | u :: us => candV l u us ++ spU l us
def splitsR (l : List Lk) : List (Int × Int × List Int) := if ringR l = true then [] else spU l (vertsL l)
def kindR (l : List Lk) : Int := if (l.length : Int) = 1 then 0 else if ringR l = true then 1 else if ((vertsL l).length : Int) = 2 then 2 else if ((splitsR l).length : Int) = 0 then 3 else 4
theorem rverts_any (vl : Value) (l : List (Int × Int × Int)) (o : Orig) (hL : Rd (· < o.w.heap.size) o.w vl l) (hs : l.length ≤ 100000) :
 Calls Try.prog 58 [vl].toArray o.w (Giv o (fun S v w' => Rd S w' v (vertsL l))) := by
 refine enter Try.f58 40 Try.func58 fun a hA => ?_
 replace hA := env_sub [(0, vl)] hA
 have H := Fr.start o
 refine go_seq fun K1 hK1 => ?_
 refine q_reg [] [(0, vl)] (TT ∧ True) hA H ⟨tv, tv⟩ fun a w2 hA H hG => ?_
 refine hK1 _ _ ?_
 refine go_seq fun K3 hK3 => ?_
 refine q_reg [] [(0, vl), (3, (.slice none 0 0))] (TT ∧ True) hA H ⟨tv, tv⟩ fun a w4 hA H hG => ?_
 refine hK3 _ _ ?_
 refine go_seq fun K5 hK5 => ?_
 refine go_seq fun K6 hK6 => ?_
 refine q_reg [] [(0, vl), (3, (.slice none 0 0)), (4, iv 0)] (TT ∧ True) hA H ⟨tv, tv⟩ fun a w7 hA H hG => ?_
 refine hK6 _ _ ?_
 refine go_block 0 ?_
 replace H := H.ro (rd_nil (α := Int))
 refine go_loop_ (Int × Value × List Int) (fun x_ a W => (fun (i : Int) (vr : Value) (e : List Int) => EnvOk 40 a (keepEnv [(0, vl), (3, vr), (4, iv i)]) ∧ (∃ S, Fr o W S [.ro vr e]) ∧ 0 ≤ i ∧ i ≤ (l.length : Int) ∧ RvI l i e) x_.1 x_.2.1 x_.2.2) (fun x_ => (fun (i : Int) (vr : Value) (e : List Int) => ((l.length : Int) - i).toNat) x_.1 x_.2.1 x_.2.2) (0, .slice none 0 0, []) ?_ (fun x_ a w9 hI => ?_)
 · (try dsimp only); exact ⟨env_sub _ hA, ⟨_, H⟩, by omega, by omega, rv_start l⟩
 obtain ⟨i, vr, e⟩ := x_
 obtain ⟨hA, ⟨S, H⟩, h0, h0b, hi⟩ := hI
 try dsimp only at h0 h0b hi
 replace H : Fr _ _ _ [.ro vr e] := H
 have hel := hi.len
 refine go_seq fun K10 hK10 => ?_
 refine go_seq fun K11 hK11 => ?_
 refine q_reg [(7, iv (l.length : Int))] [(0, vl), (3, vr), (4, iv i), (8, .bool (decide (i < (l.length : Int))))] (TT ∧ TT ∧ (LenOk vl (l.length : Int)) ∧ TT ∧ True) hA H ⟨tv, tv, by exact len_ok (H.arg hL), tv, tv⟩ fun a w12 hA H hG => ?_
 refine hK11 _ _ ?_
 refine go_cond hA (.tmp 8) (decide (i < (l.length : Int))) (fun hb13 => ?_) (fun hb13 => ?_)
 · have hhb13 := of_decide_eq_true hb13
   refine go_skip ?_
   refine hK10 _ _ ?_
   refine go_seq fun K14 hK14 => ?_
   refine go_block 1 ?_
   refine go_seq fun K15 hK15 => ?_
   have H0 := H
   have hM0 := H0.keeps none (.inl rfl)
   refine region_mix (But w12 none) [0, 1, 2, 3, 4, 5, 6, 7, 8, 9, 10, 11, 12, 13] 15 ?_
   replace H := H.drawn; have hD := But.drew w12 none
   generalize ({ w12 with drawn := w12.drawn + 1 } : World) = w16 at H hD ⊢
   refine m_take (n := 3) [0, 1, 2, 3, 4, 5, 6, 7, 8, 9, 10, 11] #[true, true, true, true, true, true, true, true, true, true, true, true, false, false, false] [(16, iv ((l.getD i.toNat (0, (0, 0))).1)), (21, iv (((l.getD i.toNat (0, (0, 0))).2).1)), (22, iv (min ((l.getD i.toNat (0, (0, 0))).1) (((l.getD i.toNat (0, (0, 0))).2).1)))] [(0, vl), (3, vr), (4, iv i), (11, vr), (22, iv (min ((l.getD i.toNat (0, (0, 0))).1) (((l.getD i.toNat (0, (0, 0))).2).1)))] (TT ∧ TT ∧ TT ∧ ((Try.prog.info? 113).isSome = true ∧ IdxOk vl i) ∧ (0 < Try.prog.cellsOf 3) ∧ (CellOk (But w12 none) (hdB vl) (hdO vl + i.toNat * 3 + 0) (.int .i64 ((l.getD i.toNat (0, (0, 0))).1))) ∧ TT ∧ TT ∧ ((Try.prog.info? 113).isSome = true ∧ IdxOk vl i) ∧ (0 < Try.prog.cellsOf 3) ∧ (CellOk (But w12 none) (hdB vl) (hdO vl + i.toNat * 3 + 1) (.int .i64 (((l.getD i.toNat (0, (0, 0))).2).1))) ∧ (∀ ty w, (Builtin.min_ #[3, 3] ty [.int .i64 ((l.getD i.toNat (0, (0, 0))).1), .int .i64 (((l.getD i.toNat (0, (0, 0))).2).1)].toArray).run Try.prog w = .ok (.int .i64 (min ((l.getD i.toNat (0, (0, 0))).1) (((l.getD i.toNat (0, (0, 0))).2).1))) w) ∧ True) hA hD ⟨tv, tv, tv, ⟨by kernel_rfl, by exact idx_ok (H0.argT hL) (by omega) (by omega)⟩, by decide +kernel, by exact cell_flatC hM0 (i := i) (H0.argT hL) (by omega) (by omega) (0, (0, 0)) 0, tv, tv, ⟨by kernel_rfl, by exact idx_ok (H0.argT hL) (by omega) (by omega)⟩, by decide +kernel, by exact cell_flatC hM0 (i := i) (H0.argT hL) (by omega) (by omega) (0, (0, 0)) 1, fun ty w => min_ok ty w, tv⟩ fun a hA => ?_
   refine m_one 12 ?_; refine q_lit 12 23 27 1 #[(0, .tmp 22)] 3 [(0, iv (min ((l.getD i.toNat (0, (0, 0))).1) (((l.getD i.toNat (0, (0, 0))).2).1)))] [.int .i64 (min ((l.getD i.toNat (0, (0, 0))).1) (((l.getD i.toNat (0, (0, 0))).2).1))] [(0, vl), (3, vr), (4, iv i), (11, vr)] hA H fun b17 a w18 H hA hG hge_b17 => ?_
   replace hge_b17 := Nat.le_trans hD.1 hge_b17
   replace hD := hD.below hG
   refine ⟨fun _ => hD, ?_⟩
   refine m_one 13 ?_; refine q_call 13 24 44 #[.tmp 11, .tmp 23] #[27, 27] [vr, (.slice (some ⟨b17, 0, none⟩) 1 1)] (fun S v_ w' => Rd S w' v_ (mergeL e ([min ((l.getD i.toNat (0, (0, 0))).1) (((l.getD i.toNat (0, (0, 0))).2).1)] : List Int) 1)) [(0, vl), (3, vr), (4, iv i)] hA H (by exact ror_any vr (.slice (some ⟨b17, 0, none⟩) 1 1) e ([min ((l.getD i.toNat (0, (0, 0))).1) (((l.getD i.toNat (0, (0, 0))).2).1)] : List Int) H.at ((H.get 1 rfl)) ((H.lit 0 rfl (l := ([min ((l.getD i.toNat (0, (0, 0))).1) (((l.getD i.toNat (0, (0, 0))).2).1)] : List Int)) (by exact (RowRd.single (α := Int) (a := min ((l.getD i.toNat (0, (0, 0))).1) (((l.getD i.toNat (0, (0, 0))).2).1)) (by exact rfl))) (n := 1) rfl (by decide))) (by omega) (by simp only [List.length_cons, List.length_nil]; omega)) fun v19 a w20 S hR21 H hA hG => ?_
   replace H := H.ro hR21
   replace hD := hD.below hG
   refine ⟨fun _ => hD, ?_⟩
   refine m_one 14 ?_; refine q_one 14 [] [(0, vl), (3, v19), (4, iv i)] (TT ∧ True) hA H ⟨tv, tv⟩ fun a w23 H hA hG => ?_
   refine ⟨fun h => absurd h (by decide), ?_⟩
   refine m_end ?_
   refine hK15 _ _ ?_
   have hel1 := rv_len1 (a := min (lkA l i) (lkB l i)) hi
   unfold lkA lkB at hel1
   have H0 := H
   have hM0 := H0.keeps none (.inl rfl)
   refine region_mix (But w23 none) [0, 1, 2, 3, 4, 5, 6, 7, 8, 9, 10, 11, 12, 13] 15 ?_
   replace H := H.drawn; have hD := But.drew w23 none
   generalize ({ w23 with drawn := w23.drawn + 1 } : World) = w24 at H hD ⊢
   refine m_take (n := 3) [0, 1, 2, 3, 4, 5, 6, 7, 8, 9, 10, 11] #[true, true, true, true, true, true, true, true, true, true, true, true, false, false, false] [(30, iv ((l.getD i.toNat (0, (0, 0))).1)), (35, iv (((l.getD i.toNat (0, (0, 0))).2).1)), (36, iv (max ((l.getD i.toNat (0, (0, 0))).1) (((l.getD i.toNat (0, (0, 0))).2).1)))] [(0, vl), (3, v19), (4, iv i), (25, v19), (36, iv (max ((l.getD i.toNat (0, (0, 0))).1) (((l.getD i.toNat (0, (0, 0))).2).1)))] (TT ∧ TT ∧ TT ∧ ((Try.prog.info? 113).isSome = true ∧ IdxOk vl i) ∧ (0 < Try.prog.cellsOf 3) ∧ (CellOk (But w23 none) (hdB vl) (hdO vl + i.toNat * 3 + 0) (.int .i64 ((l.getD i.toNat (0, (0, 0))).1))) ∧ TT ∧ TT ∧ ((Try.prog.info? 113).isSome = true ∧ IdxOk vl i) ∧ (0 < Try.prog.cellsOf 3) ∧ (CellOk (But w23 none) (hdB vl) (hdO vl + i.toNat * 3 + 1) (.int .i64 (((l.getD i.toNat (0, (0, 0))).2).1))) ∧ (∀ ty w, (Builtin.max_ #[3, 3] ty [.int .i64 ((l.getD i.toNat (0, (0, 0))).1), .int .i64 (((l.getD i.toNat (0, (0, 0))).2).1)].toArray).run Try.prog w = .ok (.int .i64 (max ((l.getD i.toNat (0, (0, 0))).1) (((l.getD i.toNat (0, (0, 0))).2).1))) w) ∧ True) hA hD ⟨tv, tv, tv, ⟨by kernel_rfl, by exact idx_ok (H0.argT hL) (by omega) (by omega)⟩, by decide +kernel, by exact cell_flatC hM0 (i := i) (H0.argT hL) (by omega) (by omega) (0, (0, 0)) 0, tv, tv, ⟨by kernel_rfl, by exact idx_ok (H0.argT hL) (by omega) (by omega)⟩, by decide +kernel, by exact cell_flatC hM0 (i := i) (H0.argT hL) (by omega) (by omega) (0, (0, 0)) 1, fun ty w => max_ok ty w, tv⟩ fun a hA => ?_
   refine m_one 12 ?_; refine q_lit 12 37 27 1 #[(0, .tmp 36)] 3 [(0, iv (max ((l.getD i.toNat (0, (0, 0))).1) (((l.getD i.toNat (0, (0, 0))).2).1)))] [.int .i64 (max ((l.getD i.toNat (0, (0, 0))).1) (((l.getD i.toNat (0, (0, 0))).2).1))] [(0, vl), (3, v19), (4, iv i), (25, v19)] hA H fun b25 a w26 H hA hG hge_b25 => ?_
   replace hge_b25 := Nat.le_trans hD.1 hge_b25
   replace hD := hD.below hG
   refine ⟨fun _ => hD, ?_⟩
   refine m_one 13 ?_; refine q_call 13 38 44 #[.tmp 25, .tmp 37] #[27, 27] [v19, (.slice (some ⟨b25, 0, none⟩) 1 1)] (fun S v_ w' => Rd S w' v_ (mergeL (mergeL e ([min ((l.getD i.toNat (0, (0, 0))).1) (((l.getD i.toNat (0, (0, 0))).2).1)] : List Int) 1) ([max ((l.getD i.toNat (0, (0, 0))).1) (((l.getD i.toNat (0, (0, 0))).2).1)] : List Int) 1)) [(0, vl), (3, v19), (4, iv i)] hA H (by exact ror_any v19 (.slice (some ⟨b25, 0, none⟩) 1 1) (mergeL e ([min ((l.getD i.toNat (0, (0, 0))).1) (((l.getD i.toNat (0, (0, 0))).2).1)] : List Int) 1) ([max ((l.getD i.toNat (0, (0, 0))).1) (((l.getD i.toNat (0, (0, 0))).2).1)] : List Int) H.at ((H.get 1 rfl)) ((H.lit 0 rfl (l := ([max ((l.getD i.toNat (0, (0, 0))).1) (((l.getD i.toNat (0, (0, 0))).2).1)] : List Int)) (by exact (RowRd.single (α := Int) (a := max ((l.getD i.toNat (0, (0, 0))).1) (((l.getD i.toNat (0, (0, 0))).2).1)) (by exact rfl))) (n := 1) rfl (by decide))) (by omega) (by simp only [List.length_cons, List.length_nil]; omega)) fun v27 a w28 S hR29 H hA hG => ?_
   replace H := H.ro hR29
   replace hD := hD.below hG
   refine ⟨fun _ => hD, ?_⟩
   refine m_one 14 ?_; refine q_one 14 [] [(0, vl), (3, v27), (4, iv i)] (TT ∧ True) hA H ⟨tv, tv⟩ fun a w31 H hA hG => ?_
   refine ⟨fun h => absurd h (by decide), ?_⟩
   refine m_end ?_
   refine hK14 _ _ ?_
   refine q_reg [] [(0, vl), (3, v27), (4, iv (i + 1))] (TT ∧ (InR .i64 (i + 1)) ∧ TT ∧ True) hA H ⟨tv, ⟨by omega, by omega⟩, tv, tv⟩ fun a w32 hA H hG => ?_
   replace H := H.drop 4
   replace H := Fr.order [.ro v27 (mergeL (mergeL e ([min ((l.getD i.toNat (0, (0, 0))).1) (((l.getD i.toNat (0, (0, 0))).2).1)] : List Int) 1) ([max ((l.getD i.toNat (0, (0, 0))).1) (((l.getD i.toNat (0, (0, 0))).2).1)] : List Int) 1), .box b25 3 [.int .i64 (max ((l.getD i.toNat (0, (0, 0))).1) (((l.getD i.toNat (0, (0, 0))).2).1))], .ro v19 (mergeL e ([min ((l.getD i.toNat (0, (0, 0))).1) (((l.getD i.toNat (0, (0, 0))).2).1)] : List Int) 1), .box b17 3 [.int .i64 (min ((l.getD i.toNat (0, (0, 0))).1) (((l.getD i.toNat (0, (0, 0))).2).1))]] [] H [0, 1, 2, 3] (by show List.Perm _ (List.range 4); decide)
   replace H : Fr _ _ _ [.ro v27 (mergeL (mergeL e ([min ((l.getD i.toNat (0, (0, 0))).1) (((l.getD i.toNat (0, (0, 0))).2).1)] : List Int) 1) ([max ((l.getD i.toNat (0, (0, 0))).1) (((l.getD i.toNat (0, (0, 0))).2).1)] : List Int) 1), .box b25 3 [.int .i64 (max ((l.getD i.toNat (0, (0, 0))).1) (((l.getD i.toNat (0, (0, 0))).2).1))], .ro v19 (mergeL e ([min ((l.getD i.toNat (0, (0, 0))).1) (((l.getD i.toNat (0, (0, 0))).2).1)] : List Int) 1), .box b17 3 [.int .i64 (min ((l.getD i.toNat (0, (0, 0))).1) (((l.getD i.toNat (0, (0, 0))).2).1))]] := H
   replace H := H.drop 3
   replace H := H.drop 2
   replace H := H.drop 1
   refine ⟨(i + 1, v27, mergeL (mergeL e ([min ((l.getD i.toNat (0, (0, 0))).1) (((l.getD i.toNat (0, (0, 0))).2).1)] : List Int) 1) ([max ((l.getD i.toNat (0, (0, 0))).1) (((l.getD i.toNat (0, (0, 0))).2).1)] : List Int) 1), ⟨env_sub _ hA, ⟨_, H⟩, ?_⟩, ?_⟩
   · (try dsimp only); exact ⟨by omega, by omega, rv_step hi h0 (by omega)⟩
   (try dsimp only); omega
 have hhb13 := of_decide_eq_false hb13
 refine go_exit 0 ?_
 refine hK5 _ _ ?_
 refine go_seq fun K33 hK33 => ?_
 refine q_reg [] [(2, vr)] (TT ∧ TT ∧ True) hA H ⟨tv, tv, tv⟩ fun a w34 hA H hG => ?_
 refine hK33 _ _ ?_
 refine go_ret_ ?_
 refine ret_one 2 vr hA ?_
 have ho := (H.giveRo 0 rfl)
 rw [rv_end hi (by omega)] at ho; exact ⟨_, rfl, ho, H.below⟩
theorem rclasses_any (vl : Value) (l : List (Int × Int × Int)) (x y : Int) (o : Orig) (hL : Rd (· < o.w.heap.size) o.w vl l) (hs : l.length ≤ 100000) (hx : -9223372036854775808 ≤ x ∧ x ≤ 9223372036854775807) (hy : -9223372036854775808 ≤ y ∧ y ≤ 9223372036854775807) :
 Calls Try.prog 63 [vl, .int .i64 x, .int .i64 y].toArray o.w (Giv o (fun S v w' => Rd S w' v (classesL l x y))) := by
 refine enter Try.f63 83 Try.func63 fun a hA => ?_
 replace hA := env_sub [(0, vl), (1, iv x), (2, iv y)] hA
 have H := Fr.start o
 refine go_seq fun K1 hK1 => ?_
 refine q_reg [] [(0, vl), (1, iv x), (2, iv y)] (TT ∧ True) hA H ⟨tv, tv⟩ fun a w2 hA H hG => ?_
 refine hK1 _ _ ?_
 refine go_seq fun K3 hK3 => ?_
 refine q_reg [] [(0, vl), (1, iv x), (2, iv y), (7, (.slice none 0 0))] (TT ∧ True) hA H ⟨tv, tv⟩ fun a w4 hA H hG => ?_
 refine hK3 _ _ ?_
 refine go_seq fun K5 hK5 => ?_
 refine q_reg [] [(0, vl), (1, iv x), (2, iv y), (7, (.slice none 0 0)), (8, (.slice none 0 0))] (TT ∧ True) hA H ⟨tv, tv⟩ fun a w6 hA H hG => ?_
 refine hK5 _ _ ?_
 refine go_seq fun K7 hK7 => ?_
 refine go_seq fun K8 hK8 => ?_
 refine q_reg [] [(0, vl), (1, iv x), (2, iv y), (7, (.slice none 0 0)), (8, (.slice none 0 0)), (9, iv 0)] (TT ∧ True) hA H ⟨tv, tv⟩ fun a w9 hA H hG => ?_
 refine hK8 _ _ ?_
 refine go_block 0 ?_
 replace H := H.newRow (α := Int) 3
 replace H := H.newRow (α := List Int) 27
 refine go_loop_ (Int × Value × List (List Int) × Value × List Int) (fun x_ a W => (fun (i : Int) (vo : Value) (out : List (List Int)) (vd : Value) (d : List Int) => EnvOk 83 a (keepEnv [(0, vl), (1, iv x), (2, iv y), (7, vo), (8, vd), (9, iv i)]) ∧ (∃ S, Fr o W S [.row 27 vo out, .row 3 vd d]) ∧ 0 ≤ i ∧ i ≤ (l.length : Int) ∧ (out.length : Int) ≤ i ∧ Dn l x y i d out) x_.1 x_.2.1 x_.2.2.1 x_.2.2.2.1 x_.2.2.2.2) (fun x_ => (fun (i : Int) (vo : Value) (out : List (List Int)) (vd : Value) (d : List Int) => ((l.length : Int) - i).toNat) x_.1 x_.2.1 x_.2.2.1 x_.2.2.2.1 x_.2.2.2.2) (0, .slice none 0 0, [], .slice none 0 0, []) ?_ (fun x_ a w11 hI => ?_)
 · (try dsimp only); exact ⟨env_sub _ hA, ⟨_, H⟩, by omega, by omega, by simp, dn_start⟩
 obtain ⟨i, vo, out, vd, d⟩ := x_
 obtain ⟨hA, ⟨S, H⟩, h0, h0b, h1, hd⟩ := hI
 try dsimp only at h0 h0b h1 hd
 replace H : Fr _ _ _ [.row 27 vo out, .row 3 vd d] := H
 have hdl := dn_len hd
 refine go_seq fun K12 hK12 => ?_
 refine go_seq fun K13 hK13 => ?_
 refine q_reg [(17, iv (l.length : Int))] [(0, vl), (1, iv x), (2, iv y), (7, vo), (8, vd), (9, iv i), (18, .bool (decide (i < (l.length : Int))))] (TT ∧ TT ∧ (LenOk vl (l.length : Int)) ∧ TT ∧ True) hA H ⟨tv, tv, by exact len_ok (H.arg hL), tv, tv⟩ fun a w14 hA H hG => ?_
 refine hK13 _ _ ?_
 refine go_cond hA (.tmp 18) (decide (i < (l.length : Int))) (fun hb15 => ?_) (fun hb15 => ?_)
 · have hhb15 := of_decide_eq_true hb15
   refine go_skip ?_
   refine hK12 _ _ ?_
   refine go_seq fun K16 hK16 => ?_
   refine go_block 1 ?_
   refine go_seq fun K17 hK17 => ?_
   refine go_seq fun K18 hK18 => ?_
   refine q_reg [(23, .bool (decide (i ∈ d)))] [(0, vl), (1, iv x), (2, iv y), (7, vo), (8, vd), (9, iv i), (23, .bool (decide (i ∈ d)))] (TT ∧ TT ∧ (Callable Try.prog 24 ∧ CallOk Try.prog (On w14) 24 [vd, .int .i64 i].toArray (.bool (decide (i ∈ d)))) ∧ True) hA H ⟨tv, tv, ⟨callable_of, callOk_of fun w hw => by exact in_any vd d i w (((H.on hw).out 1 rfl))⟩, tv⟩ fun a w19 hA H hG => ?_
   refine hK18 _ _ ?_
   refine go_cond hA (.tmp 23) (decide (i ∈ d)) (fun hb20 => ?_) (fun hb20 => ?_)
   · have hhb20 := of_decide_eq_true hb20
     refine go_exit 1 ?_
     refine hK16 _ _ ?_
     refine q_reg [] [(0, vl), (1, iv x), (2, iv y), (7, vo), (8, vd), (9, iv (i + 1))] (TT ∧ (InR .i64 (i + 1)) ∧ TT ∧ True) hA H ⟨tv, ⟨by omega, by omega⟩, tv, tv⟩ fun a w21 hA H hG => ?_
     replace H := Fr.order [.row 27 vo out, .row 3 vd d] [] H [0, 1] (by show List.Perm _ (List.range 2); decide)
     replace H : Fr _ _ _ [.row 27 vo out, .row 3 vd d] := H
     refine ⟨(i + 1, vo, out, vd, d), ⟨env_sub _ hA, ⟨_, H⟩, ?_⟩, ?_⟩
     · (try dsimp only); exact ⟨by omega, by omega, by (try simp only [List.length_append, List.length_cons, List.length_nil]); omega, dn_skip hd h0 hhb20⟩
     (try dsimp only); omega
   have hhb20 := of_decide_eq_false hb20
   refine go_skip ?_
   refine hK17 _ _ ?_
   refine go_seq fun K22 hK22 => ?_
   refine region_list ?_
   refine q_list 0 1 [] [(0, vl), (1, iv x), (2, iv y), (7, vo), (8, vd), (9, iv i), (24, iv i)] (TT ∧ True) hA H ⟨tv, tv⟩ fun a w23 hA H hG => ?_
   refine list_at 1 ?_; refine q_lit 1 25 27 1 #[(0, .tmp 24)] 3 [(0, iv i)] [.int .i64 i] [(0, vl), (1, iv x), (2, iv y), (7, vo), (8, vd), (9, iv i)] hA H fun b24 a w25 H hA hG hge_b24 => ?_
   clear hge_b24
   refine q_list 2 1 [] [(0, vl), (1, iv x), (2, iv y), (7, vo), (8, vd), (9, iv i), (10, (.slice (some ⟨b24, 0, none⟩) 1 1))] (TT ∧ True) hA H ⟨tv, tv⟩ fun a w26 hA H hG => ?_
   refine list_end ?_
   refine hK22 _ _ ?_
   refine go_seq fun K27 hK27 => ?_
   refine go_seq fun K28 hK28 => ?_
   have hni : ¬ i ∈ d := hhb20
   replace H := H.rowBox 0 rfl (l := [i]) (by exact RowRd.single (α := Int) (a := i) rfl) (n := 1) rfl (by decide)
   replace H : Fr _ _ _ [.row 3 (.slice (some ⟨b24, 0, none⟩) 1 1) [i], .row 27 vo out, .row 3 vd d] := H
   replace H := Fr.order [.row 3 (.slice (some ⟨b24, 0, none⟩) 1 1) [i], .row 27 vo out, .row 3 vd d] [] H [0, 1, 2] (by show List.Perm _ (List.range 3); decide)
   replace H : Fr _ _ _ [.row 3 (.slice (some ⟨b24, 0, none⟩) 1 1) [i], .row 27 vo out, .row 3 vd d] := H
   refine q_reg [] [(0, vl), (1, iv x), (2, iv y), (7, vo), (8, vd), (9, iv i), (10, (.slice (some ⟨b24, 0, none⟩) 1 1)), (11, iv 0)] (TT ∧ True) hA H ⟨tv, tv⟩ fun a w29 hA H hG => ?_
   refine hK28 _ _ ?_
   refine go_block 2 ?_
   refine go_loop_ (Int × Value × List Int) (fun x_ a W => (fun (k : Int) (vc : Value) (c : List Int) => EnvOk 83 a (keepEnv [(0, vl), (1, iv x), (2, iv y), (7, vo), (8, vd), (9, iv i), (10, vc), (11, iv k)]) ∧ (∃ S, Fr o W S [.row 3 vc c, .row 27 vo out, .row 3 vd d]) ∧ Bf l x y i k 0 c) x_.1 x_.2.1 x_.2.2) (fun x_ => (fun (k : Int) (vc : Value) (c : List Int) => ((l.length : Int) + 1 - k).toNat) x_.1 x_.2.1 x_.2.2) (0, (.slice (some ⟨b24, 0, none⟩) 1 1), [i]) ?_ (fun x_ a w31 hI => ?_)
   · (try dsimp only); exact ⟨env_sub _ hA, ⟨_, H⟩, bf_start h0 (by omega)⟩
   obtain ⟨k, vc, c⟩ := x_
   obtain ⟨hA, ⟨S, H⟩, hb⟩ := hI
   try dsimp only at hb
   replace H : Fr _ _ _ [.row 3 vc c, .row 27 vo out, .row 3 vd d] := H
   have hcl := bf_len hb; have hk0 := hb.k0; have hkn := hb.kn
   refine go_seq fun K32 hK32 => ?_
   refine go_seq fun K33 hK33 => ?_
   refine q_reg [(28, iv (c.length : Int))] [(0, vl), (1, iv x), (2, iv y), (7, vo), (8, vd), (9, iv i), (10, vc), (11, iv k), (29, .bool (decide (k < (c.length : Int))))] (TT ∧ TT ∧ (LenOk vc (c.length : Int)) ∧ TT ∧ True) hA H ⟨tv, tv, by exact len_ok (H.out 0 rfl), tv, tv⟩ fun a w34 hA H hG => ?_
   refine hK33 _ _ ?_
   refine go_cond hA (.tmp 29) (decide (k < (c.length : Int))) (fun hb35 => ?_) (fun hb35 => ?_)
   · have hhb35 := of_decide_eq_true hb35
     refine go_skip ?_
     refine hK32 _ _ ?_
     refine go_seq fun K36 hK36 => ?_
     refine go_block 3 ?_
     refine go_seq fun K37 hK37 => ?_
     refine q_reg [] [(0, vl), (1, iv x), (2, iv y), (7, vo), (8, vd), (9, iv i), (10, vc), (11, iv k), (12, iv 0)] (TT ∧ True) hA H ⟨tv, tv⟩ fun a w38 hA H hG => ?_
     refine hK37 _ _ ?_
     refine go_block 4 ?_
     refine go_loop_ (Int × Value × List Int) (fun x_ a W => (fun (j : Int) (vc2 : Value) (c2 : List Int) => EnvOk 83 a (keepEnv [(0, vl), (1, iv x), (2, iv y), (7, vo), (8, vd), (9, iv i), (10, vc2), (11, iv k), (12, iv j)]) ∧ (∃ S, Fr o W S [.row 3 vc2 c2, .row 27 vo out, .row 3 vd d]) ∧ 0 ≤ j ∧ j ≤ (l.length : Int) ∧ c.length ≤ c2.length ∧ Bf l x y i k j c2) x_.1 x_.2.1 x_.2.2) (fun x_ => (fun (j : Int) (vc2 : Value) (c2 : List Int) => ((l.length : Int) - j).toNat) x_.1 x_.2.1 x_.2.2) (0, vc, c) ?_ (fun x_ a w40 hI => ?_)
     · (try dsimp only); exact ⟨env_sub _ hA, ⟨_, H⟩, by omega, by omega, Nat.le_refl _, hb⟩
     obtain ⟨j, vc2, c2⟩ := x_
     obtain ⟨hA, ⟨S, H⟩, j0, j0b, j1, hb⟩ := hI
     try dsimp only at j0 j0b j1 hb
     replace H : Fr _ _ _ [.row 3 vc2 c2, .row 27 vo out, .row 3 vd d] := H
     have hcl2 := bf_len hb
     refine go_seq fun K41 hK41 => ?_
     refine go_seq fun K42 hK42 => ?_
     refine q_reg [(34, iv (l.length : Int))] [(0, vl), (1, iv x), (2, iv y), (7, vo), (8, vd), (9, iv i), (10, vc2), (11, iv k), (12, iv j), (35, .bool (decide (j < (l.length : Int))))] (TT ∧ TT ∧ (LenOk vl (l.length : Int)) ∧ TT ∧ True) hA H ⟨tv, tv, by exact len_ok (H.arg hL), tv, tv⟩ fun a w43 hA H hG => ?_
     refine hK42 _ _ ?_
     refine go_cond hA (.tmp 35) (decide (j < (l.length : Int))) (fun hb44 => ?_) (fun hb44 => ?_)
     · have hhb44 := of_decide_eq_true hb44
       refine go_skip ?_
       refine hK41 _ _ ?_
       refine go_seq fun K45 hK45 => ?_
       refine go_block 5 ?_
       refine go_seq fun K46 hK46 => ?_
       have hck := hb.cn _ (getD_mem (l := c2) (i := k.toNat) (d := 0) (by omega))
       refine q_draw [(40, .bool (decide (j ∈ c2))), (47, iv (c2.getD k.toNat 0)), (49, .agg #[.int .i64 ((l.getD (c2.getD k.toNat 0).toNat (0, (0, 0))).1), .int .i64 (((l.getD (c2.getD k.toNat 0).toNat (0, (0, 0))).2).1), .int .i64 (((l.getD (c2.getD k.toNat 0).toNat (0, (0, 0))).2).2)]), (53, .agg #[.int .i64 ((l.getD j.toNat (0, (0, 0))).1), .int .i64 (((l.getD j.toNat (0, (0, 0))).2).1), .int .i64 (((l.getD j.toNat (0, (0, 0))).2).2)]), (56, .bool (decide (touchK (l.getD (c2.getD k.toNat 0).toNat (0, (0, 0))) (l.getD j.toNat (0, (0, 0))) x y)))] [(0, vl), (1, iv x), (2, iv y), (7, vo), (8, vd), (9, iv i), (10, vc2), (11, iv k), (12, iv j), (57, .bool ((!(decide (j ∈ c2))) && (decide (touchK (l.getD (c2.getD k.toNat 0).toNat (0, (0, 0))) (l.getD j.toNat (0, (0, 0))) x y))))] (TT ∧ TT ∧ (Callable Try.prog 24 ∧ CallOk Try.prog (On w43) 24 [vc2, .int .i64 j].toArray (.bool (decide (j ∈ c2)))) ∧ TT ∧ TT ∧ ((!(decide (j ∈ c2))) = true → True) ∧ ((!(decide (j ∈ c2))) = true → True) ∧ ((!(decide (j ∈ c2))) = true → True) ∧ ((!(decide (j ∈ c2))) = true → (Try.prog.info? 3).isSome = true ∧ IdxOk vc2 k) ∧ ((!(decide (j ∈ c2))) = true → CellOk (On w43) (hdB vc2) (hdO vc2 + k.toNat * 1) (.int .i64 (c2.getD k.toNat 0))) ∧ ((!(decide (j ∈ c2))) = true → (Try.prog.info? 113).isSome = true ∧ IdxOk vl (c2.getD k.toNat 0)) ∧ ((!(decide (j ∈ c2))) = true → (Try.prog.info? 113).isSome = true ∧ RowOk (On w43) (hdB vl) (hdO vl + (c2.getD k.toNat 0).toNat * 3) (Try.prog.cellsOf 113) #[.int .i64 ((l.getD (c2.getD k.toNat 0).toNat (0, (0, 0))).1), .int .i64 (((l.getD (c2.getD k.toNat 0).toNat (0, (0, 0))).2).1), .int .i64 (((l.getD (c2.getD k.toNat 0).toNat (0, (0, 0))).2).2)]) ∧ ((!(decide (j ∈ c2))) = true → True) ∧ ((!(decide (j ∈ c2))) = true → True) ∧ ((!(decide (j ∈ c2))) = true → (Try.prog.info? 113).isSome = true ∧ IdxOk vl j) ∧ ((!(decide (j ∈ c2))) = true → (Try.prog.info? 113).isSome = true ∧ RowOk (On w43) (hdB vl) (hdO vl + j.toNat * 3) (Try.prog.cellsOf 113) #[.int .i64 ((l.getD j.toNat (0, (0, 0))).1), .int .i64 (((l.getD j.toNat (0, (0, 0))).2).1), .int .i64 (((l.getD j.toNat (0, (0, 0))).2).2)]) ∧ ((!(decide (j ∈ c2))) = true → True) ∧ ((!(decide (j ∈ c2))) = true → True) ∧ ((!(decide (j ∈ c2))) = true → Callable Try.prog 89 ∧ CallOk Try.prog (On w43) 89 [.agg #[.int .i64 ((l.getD (c2.getD k.toNat 0).toNat (0, (0, 0))).1), .int .i64 (((l.getD (c2.getD k.toNat 0).toNat (0, (0, 0))).2).1), .int .i64 (((l.getD (c2.getD k.toNat 0).toNat (0, (0, 0))).2).2)], .agg #[.int .i64 ((l.getD j.toNat (0, (0, 0))).1), .int .i64 (((l.getD j.toNat (0, (0, 0))).2).1), .int .i64 (((l.getD j.toNat (0, (0, 0))).2).2)], .int .i64 x, .int .i64 y].toArray (.bool (decide (touchK (l.getD (c2.getD k.toNat 0).toNat (0, (0, 0))) (l.getD j.toNat (0, (0, 0))) x y)))) ∧ TT ∧ True) hA H ⟨tv, tv, ⟨callable_of, callOk_of fun w hw => by exact in_any vc2 c2 j w (((H.on hw).out 0 rfl))⟩, tv, tv, fun _ => tv, fun _ => tv, fun _ => tv, fun hg0 => by replace hg0 := of_decide_eq_false (nT hg0); exact ⟨by kernel_rfl, by exact idx_ok (H.out 0 rfl) (by omega) (by omega)⟩, fun hg0 => by replace hg0 := of_decide_eq_false (nT hg0); exact by exact cell_flat (i := k) (H.out 0 rfl) (by omega) (by omega) 0 0, fun hg0 => by replace hg0 := of_decide_eq_false (nT hg0); exact ⟨by kernel_rfl, by exact idx_ok (H.arg hL) (by omega) (by omega)⟩, fun hg0 => by replace hg0 := of_decide_eq_false (nT hg0); exact ⟨by kernel_rfl, by exact row_flat (i := (c2.getD k.toNat 0)) (H.arg hL) (by omega) (by omega) (0, (0, 0))⟩, fun _ => tv, fun _ => tv, fun hg0 => by replace hg0 := of_decide_eq_false (nT hg0); exact ⟨by kernel_rfl, by exact idx_ok (H.arg hL) (by omega) (by omega)⟩, fun hg0 => by replace hg0 := of_decide_eq_false (nT hg0); exact ⟨by kernel_rfl, by exact row_flat (i := j) (H.arg hL) (by omega) (by omega) (0, (0, 0))⟩, fun _ => tv, fun _ => tv, fun _ => ⟨callable_of, callOk_of fun w hw => by exact touch_any (l.getD (c2.getD k.toNat 0).toNat (0, (0, 0))) (l.getD j.toNat (0, (0, 0))) x y w⟩, tv, tv⟩ fun a w47 hA H hG => ?_
       refine hK46 _ _ ?_
       refine go_cond hA (.tmp 57) ((!(decide (j ∈ c2))) && (decide (touchK (l.getD (c2.getD k.toNat 0).toNat (0, (0, 0))) (l.getD j.toNat (0, (0, 0))) x y))) (fun hb48 => ?_) (fun hb48 => ?_)
       · have hhb48 := (⟨of_decide_eq_false (nT ((aT hb48).1)), of_decide_eq_true ((aT hb48).2)⟩ : _ ∧ _)
         refine region_list ?_
         refine q_list 0 2 [] [(0, vl), (1, iv x), (2, iv y), (7, vo), (8, vd), (9, iv i), (11, iv k), (12, iv j), (58, vc2), (59, iv j)] (TT ∧ TT ∧ True) hA H ⟨tv, tv, tv⟩ fun a w49 hA H hG => ?_
         refine list_at 2 ?_; refine q_lit 2 60 27 1 #[(0, .tmp 59)] 3 [(0, iv j)] [.int .i64 j] [(0, vl), (1, iv x), (2, iv y), (7, vo), (8, vd), (9, iv i), (11, iv k), (12, iv j), (58, vc2)] hA H fun b50 a w51 H hA hG hge_b50 => ?_
         clear hge_b50
         refine list_at 3 ?_; refine q_push 3 61 (.tmp 58) (.tmp 60) 1 0 b50 1 1 vc2 c2 [j] [.int .i64 j] [(0, vl), (1, iv x), (2, iv y), (7, vo), (8, vd), (9, iv i), (11, iv k), (12, iv j)] hA H Try.E27 rfl rfl (by exact (RowRd.single (α := Int) rfl)) rfl (by simp only [List.length_cons, List.length_nil, List.length_append]; omega) (by decide) fun v52 a w53 H hA hG => ?_
         replace H : Fr _ _ _ [.row 3 v52 (c2 ++ [j]), .row 27 vo out, .row 3 vd d] := H.drop 0
         refine q_list 4 1 [] [(0, vl), (1, iv x), (2, iv y), (7, vo), (8, vd), (9, iv i), (10, v52), (11, iv k), (12, iv j)] (TT ∧ True) hA H ⟨tv, tv⟩ fun a w54 hA H hG => ?_
         refine list_end ?_
         refine hK45 _ _ ?_
         refine q_reg [] [(0, vl), (1, iv x), (2, iv y), (7, vo), (8, vd), (9, iv i), (10, v52), (11, iv k), (12, iv (j + 1))] (TT ∧ (InR .i64 (j + 1)) ∧ TT ∧ True) hA H ⟨tv, ⟨by omega, by omega⟩, tv, tv⟩ fun a w55 hA H hG => ?_
         refine ⟨(j + 1, v52, c2 ++ [j]), ⟨env_sub _ hA, ⟨_, H⟩, ?_⟩, ?_⟩
         · (try dsimp only); exact ⟨by omega, by omega, by (try simp only [List.length_append, List.length_cons, List.length_nil]); omega, bf_push hb (by omega) j0 (by omega) hhb48.1 hhb48.2⟩
         (try dsimp only); omega
       have hhb48 := (aF hb48).imp (fun h => of_decide_eq_true (nF h)) (fun h => of_decide_eq_false h)
       refine go_skip ?_
       refine hK45 _ _ ?_
       refine q_reg [] [(0, vl), (1, iv x), (2, iv y), (7, vo), (8, vd), (9, iv i), (10, vc2), (11, iv k), (12, iv (j + 1))] (TT ∧ (InR .i64 (j + 1)) ∧ TT ∧ True) hA H ⟨tv, ⟨by omega, by omega⟩, tv, tv⟩ fun a w56 hA H hG => ?_
       refine ⟨(j + 1, vc2, c2), ⟨env_sub _ hA, ⟨_, H⟩, ?_⟩, ?_⟩
       · (try dsimp only); exact ⟨by omega, by omega, by (try simp only [List.length_append, List.length_cons, List.length_nil]); omega, bf_skip hb j0 hhb48⟩
       (try dsimp only); omega
     have hhb44 := of_decide_eq_false hb44
     refine go_exit 4 ?_
     refine hK36 _ _ ?_
     refine q_reg [] [(0, vl), (1, iv x), (2, iv y), (7, vo), (8, vd), (9, iv i), (10, vc2), (11, iv (k + 1))] (TT ∧ (InR .i64 (k + 1)) ∧ TT ∧ True) hA H ⟨tv, ⟨by omega, by omega⟩, tv, tv⟩ fun a w57 hA H hG => ?_
     refine ⟨(k + 1, vc2, c2), ⟨env_sub _ hA, ⟨_, H⟩, ?_⟩, ?_⟩
     · (try dsimp only); exact bf_next hb (by omega) (by omega)
     (try dsimp only); omega
   have hhb35 := of_decide_eq_false hb35
   refine go_exit 2 ?_
   refine hK27 _ _ ?_
   refine go_seq fun K58 hK58 => ?_
   refine region_list ?_
   refine q_list 0 2 [] [(0, vl), (1, iv x), (2, iv y), (7, vo), (9, iv i), (10, vc), (62, vd), (63, vc)] (TT ∧ TT ∧ True) hA H ⟨tv, tv, tv⟩ fun a w59 hA H hG => ?_
   refine list_at 2 ?_; refine q_pushS 2 64 (.tmp 62) (.tmp 63) 2 vd vc d c [(0, vl), (1, iv x), (2, iv y), (7, vo), (9, iv i), (10, vc)] hA H Try.E27 rfl (H.out 0 rfl) (by (try simp only [List.length_cons, List.length_nil, List.length_append]); omega) (by decide) (fun _ _ h => h) fun v60 a w61 H hA hG => ?_
   replace H : Fr _ _ _ [.row 3 vc c, .row 27 vo out, .row 3 v60 (d ++ c)] := H
   refine q_list 3 1 [] [(0, vl), (1, iv x), (2, iv y), (7, vo), (8, v60), (9, iv i), (10, vc)] (TT ∧ True) hA H ⟨tv, tv⟩ fun a w62 hA H hG => ?_
   refine list_end ?_
   refine hK58 _ _ ?_
   refine go_seq fun K63 hK63 => ?_
   refine q_reg [] [(0, vl), (1, iv x), (2, iv y), (7, vo), (8, v60), (9, iv i), (10, vc), (13, (.slice none 0 0))] (TT ∧ True) hA H ⟨tv, tv⟩ fun a w64 hA H hG => ?_
   refine hK63 _ _ ?_
   refine go_seq fun K65 hK65 => ?_
   refine go_seq fun K66 hK66 => ?_
   refine q_reg [] [(0, vl), (1, iv x), (2, iv y), (7, vo), (8, v60), (9, iv i), (10, vc), (13, (.slice none 0 0)), (14, iv 0)] (TT ∧ True) hA H ⟨tv, tv⟩ fun a w67 hA H hG => ?_
   refine hK66 _ _ ?_
   refine go_block 6 ?_
   replace H := H.newRow (α := Int) 3
   refine go_loop_ (Int × Value × List Int) (fun x_ a W => (fun (q : Int) (vs : Value) (s : List Int) => EnvOk 83 a (keepEnv [(0, vl), (1, iv x), (2, iv y), (7, vo), (8, v60), (9, iv i), (10, vc), (13, vs), (14, iv q)]) ∧ (∃ S, Fr o W S [.row 3 vs s, .row 3 vc c, .row 27 vo out, .row 3 v60 (d ++ c)]) ∧ 0 ≤ q ∧ q ≤ (l.length : Int) ∧ (s.length : Int) ≤ q ∧ s = (upto q).filter fun x => decide (x ∈ c)) x_.1 x_.2.1 x_.2.2) (fun x_ => (fun (q : Int) (vs : Value) (s : List Int) => ((l.length : Int) - q).toNat) x_.1 x_.2.1 x_.2.2) (0, .slice none 0 0, []) ?_ (fun x_ a w69 hI => ?_)
   · (try dsimp only); exact ⟨env_sub _ hA, ⟨_, H⟩, by omega, by omega, by simp, rfl⟩
   obtain ⟨q, vs, s⟩ := x_
   obtain ⟨hA, ⟨S, H⟩, q0, q0b, q1, hs⟩ := hI
   try dsimp only at q0 q0b q1 hs
   replace H : Fr _ _ _ [.row 3 vs s, .row 3 vc c, .row 27 vo out, .row 3 v60 (d ++ c)] := H
   refine go_seq fun K70 hK70 => ?_
   refine go_seq fun K71 hK71 => ?_
   refine q_reg [(67, iv (l.length : Int))] [(0, vl), (1, iv x), (2, iv y), (7, vo), (8, v60), (9, iv i), (10, vc), (13, vs), (14, iv q), (68, .bool (decide (q < (l.length : Int))))] (TT ∧ TT ∧ (LenOk vl (l.length : Int)) ∧ TT ∧ True) hA H ⟨tv, tv, by exact len_ok (H.arg hL), tv, tv⟩ fun a w72 hA H hG => ?_
   refine hK71 _ _ ?_
   refine go_cond hA (.tmp 68) (decide (q < (l.length : Int))) (fun hb73 => ?_) (fun hb73 => ?_)
   · have hhb73 := of_decide_eq_true hb73
     refine go_skip ?_
     refine hK70 _ _ ?_
     refine go_seq fun K74 hK74 => ?_
     refine go_block 7 ?_
     refine go_seq fun K75 hK75 => ?_
     refine q_reg [(73, .bool (decide (q ∈ c)))] [(0, vl), (1, iv x), (2, iv y), (7, vo), (8, v60), (9, iv i), (10, vc), (13, vs), (14, iv q), (73, .bool (decide (q ∈ c)))] (TT ∧ TT ∧ (Callable Try.prog 24 ∧ CallOk Try.prog (On w72) 24 [vc, .int .i64 q].toArray (.bool (decide (q ∈ c)))) ∧ True) hA H ⟨tv, tv, ⟨callable_of, callOk_of fun w hw => by exact in_any vc c q w (((H.on hw).out 1 rfl))⟩, tv⟩ fun a w76 hA H hG => ?_
     refine hK75 _ _ ?_
     refine go_cond hA (.tmp 73) (decide (q ∈ c)) (fun hb77 => ?_) (fun hb77 => ?_)
     · have hhb77 := of_decide_eq_true hb77
       refine region_list ?_
       refine q_list 0 2 [] [(0, vl), (1, iv x), (2, iv y), (7, vo), (8, v60), (9, iv i), (10, vc), (14, iv q), (74, vs), (75, iv q)] (TT ∧ TT ∧ True) hA H ⟨tv, tv, tv⟩ fun a w78 hA H hG => ?_
       refine list_at 2 ?_; refine q_lit 2 76 27 1 #[(0, .tmp 75)] 3 [(0, iv q)] [.int .i64 q] [(0, vl), (1, iv x), (2, iv y), (7, vo), (8, v60), (9, iv i), (10, vc), (14, iv q), (74, vs)] hA H fun b79 a w80 H hA hG hge_b79 => ?_
       clear hge_b79
       refine list_at 3 ?_; refine q_push 3 77 (.tmp 74) (.tmp 76) 1 0 b79 1 1 vs s [q] [.int .i64 q] [(0, vl), (1, iv x), (2, iv y), (7, vo), (8, v60), (9, iv i), (10, vc), (14, iv q)] hA H Try.E27 rfl rfl (by exact (RowRd.single (α := Int) rfl)) rfl (by simp only [List.length_cons, List.length_nil, List.length_append]; omega) (by decide) fun v81 a w82 H hA hG => ?_
       replace H : Fr _ _ _ [.row 3 v81 (s ++ [q]), .row 3 vc c, .row 27 vo out, .row 3 v60 (d ++ c)] := H.drop 0
       refine q_list 4 1 [] [(0, vl), (1, iv x), (2, iv y), (7, vo), (8, v60), (9, iv i), (10, vc), (13, v81), (14, iv q)] (TT ∧ True) hA H ⟨tv, tv⟩ fun a w83 hA H hG => ?_
       refine list_end ?_
       refine hK74 _ _ ?_
       refine q_reg [] [(0, vl), (1, iv x), (2, iv y), (7, vo), (8, v60), (9, iv i), (10, vc), (13, v81), (14, iv (q + 1))] (TT ∧ (InR .i64 (q + 1)) ∧ TT ∧ True) hA H ⟨tv, ⟨by omega, by omega⟩, tv, tv⟩ fun a w84 hA H hG => ?_
       refine ⟨(q + 1, v81, s ++ [q]), ⟨env_sub _ hA, ⟨_, H⟩, ?_⟩, ?_⟩
       · (try dsimp only); exact ⟨by omega, by omega, by (try simp only [List.length_append, List.length_cons, List.length_nil]); omega, by rw [upfil_snoc q0, ← hs]; first | rw [if_pos hhb77] | rw [if_neg hhb77, List.append_nil]⟩
       (try dsimp only); omega
     have hhb77 := of_decide_eq_false hb77
     refine go_skip ?_
     refine hK74 _ _ ?_
     refine q_reg [] [(0, vl), (1, iv x), (2, iv y), (7, vo), (8, v60), (9, iv i), (10, vc), (13, vs), (14, iv (q + 1))] (TT ∧ (InR .i64 (q + 1)) ∧ TT ∧ True) hA H ⟨tv, ⟨by omega, by omega⟩, tv, tv⟩ fun a w85 hA H hG => ?_
     refine ⟨(q + 1, vs, s), ⟨env_sub _ hA, ⟨_, H⟩, ?_⟩, ?_⟩
     · (try dsimp only); exact ⟨by omega, by omega, by (try simp only [List.length_append, List.length_cons, List.length_nil]); omega, by rw [upfil_snoc q0, ← hs]; first | rw [if_pos hhb77] | rw [if_neg hhb77, List.append_nil]⟩
     (try dsimp only); omega
   have hhb73 := of_decide_eq_false hb73
   refine go_exit 6 ?_
   refine hK65 _ _ ?_
   obtain ⟨S, _, H⟩ := H.freeze 0 rfl
   replace H : Fr _ _ _ [.ro vs s, .row 3 vc c, .row 27 vo out, .row 3 v60 (d ++ c)] := H
   obtain ⟨sfp, sfn, sfc, rfl⟩ := rd_form (H.getS 0 rfl)
   replace H : Fr _ _ _ [.ro (.slice sfp sfn sfc) s, .row 3 vc c, .row 27 vo out, .row 3 v60 (d ++ c)] := H
   refine region_list ?_
   refine q_list 0 2 [] [(0, vl), (1, iv x), (2, iv y), (8, v60), (9, iv i), (78, vo), (79, (.slice sfp sfn sfc))] (TT ∧ TT ∧ True) hA H ⟨tv, tv, tv⟩ fun a w87 hA H hG => ?_
   refine list_at 2 ?_; refine q_lit 2 80 67 1 #[(0, .tmp 79)] 27 [(0, (.slice sfp sfn sfc))] [(.slice sfp sfn sfc)] [(0, vl), (1, iv x), (2, iv y), (8, v60), (9, iv i), (78, vo)] hA H fun b88 a w89 H hA hG hge_b88 => ?_
   clear hge_b88
   refine list_at 3 ?_; refine q_push 3 81 (.tmp 78) (.tmp 80) 3 0 b88 1 1 vo out [s] [(.slice sfp sfn sfc)] [(0, vl), (1, iv x), (2, iv y), (8, v60), (9, iv i)] hA H Try.E67 rfl rfl (by exact (RowRd.single (α := List (Int)) ⟨_, rfl, rd_slice (H.getS 1 rfl)⟩)) rfl (by simp only [List.length_cons, List.length_nil, List.length_append]; omega) (by decide) fun v90 a w91 H hA hG => ?_
   replace H : Fr _ _ _ [.ro (.slice sfp sfn sfc) s, .row 3 vc c, .row 27 v90 (out ++ [s]), .row 3 v60 (d ++ c)] := H.drop 0
   refine q_list 4 1 [] [(0, vl), (1, iv x), (2, iv y), (7, v90), (8, v60), (9, iv i)] (TT ∧ True) hA H ⟨tv, tv⟩ fun a w92 hA H hG => ?_
   refine list_end ?_
   refine hK16 _ _ ?_
   refine q_reg [] [(0, vl), (1, iv x), (2, iv y), (7, v90), (8, v60), (9, iv (i + 1))] (TT ∧ (InR .i64 (i + 1)) ∧ TT ∧ True) hA H ⟨tv, ⟨by omega, by omega⟩, tv, tv⟩ fun a w93 hA H hG => ?_
   replace H := Fr.order [.ro (.slice sfp sfn sfc) s, .row 3 vc c, .row 27 v90 (out ++ [s]), .row 3 v60 (d ++ c)] [] H [2, 3, 0, 1] (by show List.Perm _ (List.range 4); decide)
   replace H : Fr _ _ _ [.row 27 v90 (out ++ [s]), .row 3 v60 (d ++ c), .ro (.slice sfp sfn sfc) s, .row 3 vc c] := H
   replace H := H.drop 3
   replace H := H.drop 2
   refine ⟨(i + 1, v90, out ++ [s], v60, d ++ c), ⟨env_sub _ hA, ⟨_, H⟩, ?_⟩, ?_⟩
   · (try dsimp only); exact ⟨by omega, by omega, by (try simp only [List.length_append, List.length_cons, List.length_nil]); omega, by rw [hs, show q = (l.length : Int) by omega]; exact dn_add hd h0 (by omega) hni hb (by omega)⟩
   (try dsimp only); omega
 have hhb15 := of_decide_eq_false hb15
 refine go_exit 0 ?_
 refine hK7 _ _ ?_
 refine go_seq fun K94 hK94 => ?_
 refine q_reg [] [(6, vo)] (TT ∧ TT ∧ True) hA H ⟨tv, tv, tv⟩ fun a w95 hA H hG => ?_
 refine hK94 _ _ ?_
 refine go_ret_ ?_
 refine ret_one 6 vo hA ?_
 have ho := (H.give 0 rfl)
 rw [show i = (l.length : Int) by omega] at hd; rw [dn_end hd] at ho; exact ⟨_, rfl, ho, H.below⟩
theorem solid_ref {n : Int} {E : List (Int × Int)} {V L : List Int} (h : partE n E V L = 0) :
   (decide (((blocksL n E V L).length : Int) = 1) && (decide (((blocksL n E V L).getD (0 : Int).toNat ([], [])).1 = V) && decide (((blocksL n E V L).getD (0 : Int).toNat ([], [])).2 = L))) = solidB n E V L := by
 unfold solidB blocksE
 rw [if_neg (by omega), h]
 simp
theorem eK_len (l : List Lk) : (eK l).length = l.length := by simp [eK]
theorem eK_getD {l : List Lk} {i : Nat} (h : i < l.length) : (eK l).getD i (0, 0) = ((l.getD i (0, (0, 0))).1, (l.getD i (0, (0, 0))).2.1) := by
 unfold eK
 rw [List.getD_eq_getElem?_getD, List.getElem?_map, List.getElem?_eq_getElem h, List.getD_eq_getElem?_getD, List.getElem?_eq_getElem h]; rfl
theorem ends_eK (l : List Lk) : endsL (eK l) (upto (l.length : Int)) = endsK l := by
 have key : ∀ k : Nat, k ≤ l.length → endsL (eK l) (upto (k : Int)) = endsK (l.take k) := by
   intro k
   induction k with
   | zero => intro _; rfl
   | succ k ih =>
     intro hk
     have e := endsK_snoc (l := l) (i := (k : Int)) (by omega) (by omega)
     rw [show ((k : Int) + 1).toNat = k + 1 by omega, Int.toNat_natCast] at e
     rw [show ((k + 1 : Nat) : Int) = (k : Int) + 1 by omega, upto_succ (by omega), e, ← ih (by omega)]
     unfold endsL
     rw [List.flatMap_append, List.flatMap_cons, List.flatMap_nil, List.append_nil, Int.toNat_natCast, eK_getD (by omega)]
     rfl
 have := key l.length (Nat.le_refl _)
 rwa [List.take_length] at this
theorem span_K {l : List Lk} (h : rightE (nK l) (eK l) = 0) : spanE (nK l) (eK l) (upto (l.length : Int)) = ((vertsL l, upto (l.length : Int)), 0) := by
 unfold spanE
 rw [if_neg (by omega), if_neg (fun q => q (upto_rises (by rw [eK_len]; omega))), ends_eK]; rfl
theorem wholeR_K {l : List Lk} (h : okWh l) (h2 : rightE (nK l) (eK l) = 0) : wholeR l = (((nK l, eK l), (vertsL l, upto (l.length : Int))), true) := by
 rw [wholeR_ok h, span_K h2]; rfl
theorem rk_ok {l : List Lk} (h : okWh l) (h2 : rightE (nK l) (eK l) = 0) : rightK l = solidB (nK l) (eK l) (vertsL l) (upto (l.length : Int)) := by
 unfold rightK; rw [wholeR_K h h2]; rfl
theorem rk_wh {l : List Lk} (h : rightK l = true) : okWh l ∧ rightE (nK l) (eK l) = 0 := by
 unfold rightK at h
 rw [Bool.and_eq_true] at h
 have hW := whole_facts h.1 h.2
 refine ⟨hW.wh, ?_⟩
 have h1 := h.1
 rw [wholeR_ok hW.wh] at h1
 have h1 : (spanE (nK l) (eK l) (upto (l.length : Int))).2 = 0 := of_decide_eq_true h1
 unfold spanE at h1
 by_cases q : rightE (nK l) (eK l) = 0
 · exact q
 rw [if_pos q] at h1; exact h1
theorem rk_not {l : List Lk} {i : Nat} (hi : i < l.length) (h : ¬ okLk l i) : rightK l = false := Bool.eq_false_iff.2 fun q => h ((rk_wh q).1 i hi)
theorem rk_err {l : List Lk} (h : ¬ rightE (nK l) (eK l) = 0) : rightK l = false := Bool.eq_false_iff.2 fun q => h (rk_wh q).2
theorem rk_big {l : List Lk} (h : (1024 : Int) < (l.length : Int)) : rightK l = false := Bool.eq_false_iff.2 fun q => by
 have := rightE_0 (rk_wh q).2
 rw [eK_len] at this; omega
theorem part_K {l : List Lk} (h2 : rightE (nK l) (eK l) = 0) : partE (nK l) (eK l) (vertsL l) (upto (l.length : Int)) = 0 := by
 obtain ⟨a, b, c, d⟩ := rightE_0 h2
 refine part_iff.2 ⟨h2, ?_, upto_rises (by rw [eK_len]; omega), fun e he v hv => ?_⟩
 · obtain ⟨h3, h4⟩ := compact_sort (endsK l)
   refine rises_iff.2 ⟨h3, fun x hx => ?_⟩
   have hx := (h4 x).1 hx
   rw [← ends_eK] at hx
   obtain ⟨e, he, ht⟩ := mem_endsL.1 hx
   have he := mem_upto.1 he
   have hk := d e.toNat (by rw [eK_len]; omega)
   unfold okE at hk
   rcases ht with ht | ht <;> omega
 obtain ⟨h3, h4⟩ := compact_sort (endsK l)
 refine (h4 v).2 ?_
 rw [← ends_eK]
 exact mem_endsL.2 ⟨e, he, hv⟩
theorem okLk_mk {l : List Lk} {i : Int} (hi : 0 ≤ i) (h1 : ∀ q : Nat, (q : Int) < i → lkI l (q : Int) ≠ lkI l i) (h2 : ¬ (lkA l i < 0)) (h3 : ¬ (lkB l i < 0)) (h4 : ¬ (1024 ≤ lkA l i)) (h5 : ¬ (1024 ≤ lkB l i)) (h6 : ¬ lkA l i = lkB l i) : okLk l i.toNat := by
 refine ⟨fun j hj => ?_, by unfold lkA at h2; omega, by unfold lkB at h3; omega, by unfold lkA lkB at h6; exact h6, by unfold lkA at h4; unfold lkB at h5; omega⟩
 have := h1 j (by omega)
 unfold lkI at this
 rwa [Int.toNat_natCast] at this
theorem okLk_no {l : List Lk} {i : Int} (h : (((lkA l i < 0 ∨ lkB l i < 0) ∨ 1024 ≤ lkA l i) ∨ 1024 ≤ lkB l i) ∨ lkA l i = lkB l i) : ¬ okLk l i.toNat := by
 rintro ⟨_, h1, h2, h3, h4⟩
 unfold lkA lkB at h
 omega
theorem okLk_twice {l : List Lk} {i k : Int} (h0 : 0 ≤ k) (hk : k < i) (h : lkI l k = lkI l i) : ¬ okLk l i.toNat := by
 rintro ⟨h1, _⟩
 exact h1 k.toNat (by omega) h
section
variable {l : List Lk} {E C : List Int} {i k j u v : Int} {out r X : List (Int × Int × List Int)}
end
theorem spread_any (n : Int) (ve : Value) (E : List (Int × Int)) (vv vl : Value) (V L : List Int) (vf : Value) (x0 but : Int) (o : Orig) (hn : -9223372036854775808 ≤ n ∧ n ≤ 9223372036854775807) (hE : Rd (· < o.w.heap.size) o.w ve E) (hV : Rd (· < o.w.heap.size) o.w vv V) (hL : Rd (· < o.w.heap.size) o.w vl L) (hF : Rd (· < o.w.heap.size) o.w vf [x0]) (hpt : partE n E V L = 0) (hab : x0 ≠ but) (haU : x0 ∈ endsL E L) :
 Calls Try.prog 131 [.agg #[.int .i64 n, ve], .agg #[vv, vl], vf, .int .i64 but].toArray o.w (Giv o (fun S v w' => Rd S w' v (spread E L x0 but))) := by
 obtain ⟨hp1, hp2, hp3, hp4⟩ := partE_0 hpt
 have hr9 := rightE_0 hp1
 have hl9 := rises_len hp3 (by omega)
 refine enter Try.f131 89 Try.func131 fun a hA => ?_
 replace hA := env_sub [(0, .agg #[.int .i64 n, ve]), (1, .agg #[vv, vl]), (2, vf), (3, iv but)] hA
 have H := Fr.start o
 refine go_seq fun K1 hK1 => ?_
 refine region_list ?_
 refine list_at 0 ?_; refine q_box 0 4 24 (.tmp 0) (.agg #[.int .i64 n, ve]) [.int .i64 n, ve] [(1, .agg #[vv, vl]), (2, vf), (3, iv but)] hA H fun b2 a w3 H hA hG hge_b2 => ?_
 clear hge_b2
 refine list_at 1 ?_; refine q_box 1 5 29 (.tmp 1) (.agg #[vv, vl]) [vv, vl] [(2, vf), (3, iv but), (4, pv b2)] hA H fun b4 a w5 H hA hG hge_b4 => ?_
 clear hge_b4
 refine q_list 2 1 [] [(2, vf), (3, iv but), (4, pv b2), (5, pv b4)] (TT ∧ True) hA H ⟨tv, tv⟩ fun a w6 hA H hG => ?_
 refine list_end ?_
 refine hK1 _ _ ?_
 refine go_seq fun K7 hK7 => ?_
 refine q_reg [] [(2, vf), (3, iv but), (4, pv b2), (5, pv b4), (9, (.slice none 0 0))] (TT ∧ True) hA H ⟨tv, tv⟩ fun a w8 hA H hG => ?_
 refine hK7 _ _ ?_
 refine go_seq fun K9 hK9 => ?_
 replace H := H.newRow (α := Int) 3
 replace H : Fr _ _ _ [.row 3 (.slice none 0 0) ([] : List Int), .box b4 29 [vv, vl], .box b2 24 [.int .i64 n, ve]] := H
 refine region_list ?_
 refine q_list 0 2 [] [(3, iv but), (4, pv b2), (5, pv b4), (13, (.slice none 0 0)), (14, vf)] (TT ∧ TT ∧ True) hA H ⟨tv, tv, tv⟩ fun a w10 hA H hG => ?_
 refine list_at 2 ?_; refine q_pushS 2 15 (.tmp 13) (.tmp 14) 0 (.slice none 0 0) vf ([] : List Int) [x0] [(3, iv but), (4, pv b2), (5, pv b4)] hA H Try.E27 rfl (H.arg hF) (by simp only [List.length_cons, List.length_nil, List.length_append]; omega) (by decide) (fun _ _ h => h) fun v11 a w12 H hA hG => ?_
 replace H : Fr _ _ _ [.row 3 v11 (([] : List Int) ++ [x0]), .box b4 29 [vv, vl], .box b2 24 [.int .i64 n, ve]] := H
 refine q_list 3 1 [] [(3, iv but), (4, pv b2), (5, pv b4), (9, v11)] (TT ∧ True) hA H ⟨tv, tv⟩ fun a w13 hA H hG => ?_
 refine list_end ?_
 refine hK9 _ _ ?_
 refine go_seq fun K14 hK14 => ?_
 refine go_seq fun K15 hK15 => ?_
 refine q_reg [] [(3, iv but), (4, pv b2), (5, pv b4), (9, v11), (10, iv 0)] (TT ∧ True) hA H ⟨tv, tv⟩ fun a w16 hA H hG => ?_
 refine hK15 _ _ ?_
 refine go_block 0 ?_
 refine go_loop_ (Int × Value × List Int) (fun x_ a W => (fun (i : Int) (vr : Value) (m : List Int) => EnvOk 89 a (keepEnv [(3, iv but), (4, pv b2), (5, pv b4), (9, vr), (10, iv i)]) ∧ (∃ S, Fr o W S [.row 3 vr m, .box b4 29 [vv, vl], .box b2 24 [.int .i64 n, ve]]) ∧ 0 ≤ i ∧ i ≤ (m.length : Int) ∧ Sp (grE E L) x0 but (endsL E L) m ∧ spF E L but (2 * L.length + 1 - i.toNat) i.toNat m = spread E L x0 but) x_.1 x_.2.1 x_.2.2) (fun x_ => (fun (i : Int) (vr : Value) (m : List Int) => (2 * (L.length : Int) + 1 - i).toNat) x_.1 x_.2.1 x_.2.2) (0, v11, [x0]) ?_ (fun x_ a w18 hI => ?_)
 · (try dsimp only); exact ⟨env_sub _ hA, ⟨_, H⟩, by omega, by simp, sp_first hab haU, rfl⟩
 obtain ⟨i, vr, m⟩ := x_
 obtain ⟨hA, ⟨S, H⟩, h0, h0b, hsp, hsf⟩ := hI
 try dsimp only at h0 h0b hsp hsf
 have hml := sp_len hsp
 refine go_seq fun K19 hK19 => ?_
 refine go_seq fun K20 hK20 => ?_
 refine q_reg [(18, iv (m.length : Int))] [(3, iv but), (4, pv b2), (5, pv b4), (9, vr), (10, iv i), (19, .bool (decide (i < (m.length : Int))))] (TT ∧ TT ∧ (LenOk vr (m.length : Int)) ∧ TT ∧ True) hA H ⟨tv, tv, by exact len_ok (H.out 0 rfl), tv, tv⟩ fun a w21 hA H hG => ?_
 refine hK20 _ _ ?_
 refine go_cond hA (.tmp 19) (decide (i < (m.length : Int))) (fun hb22 => ?_) (fun hb22 => ?_)
 · have hhb22 := of_decide_eq_true hb22
   refine go_skip ?_
   refine hK19 _ _ ?_
   refine go_seq fun K23 hK23 => ?_
   refine go_block 1 ?_
   refine go_seq fun K24 hK24 => ?_
   refine q_reg [] [(3, iv but), (4, pv b2), (5, pv b4), (9, vr), (10, iv i), (11, iv 0)] (TT ∧ True) hA H ⟨tv, tv⟩ fun a w25 hA H hG => ?_
   refine hK24 _ _ ?_
   refine go_block 2 ?_
   refine go_loop_ (Int × Value × List Int) (fun x_ a W => (fun (k : Int) (vr2 : Value) (m2 : List Int) => EnvOk 89 a (keepEnv [(3, iv but), (4, pv b2), (5, pv b4), (9, vr2), (10, iv i), (11, iv k)]) ∧ (∃ S, Fr o W S [.row 3 vr2 m2, .box b4 29 [vv, vl], .box b2 24 [.int .i64 n, ve]]) ∧ 0 ≤ k ∧ k ≤ (L.length : Int) ∧ m2 = spRound E but i.toNat (L.take k.toNat) m) x_.1 x_.2.1 x_.2.2) (fun x_ => (fun (k : Int) (vr2 : Value) (m2 : List Int) => ((L.length : Int) - k).toNat) x_.1 x_.2.1 x_.2.2) (0, vr, m) ?_ (fun x_ a w27 hI => ?_)
   · (try dsimp only); exact ⟨env_sub _ hA, ⟨_, H⟩, by omega, by omega, by simp [spRound]⟩
   obtain ⟨k, vr2, m2⟩ := x_
   obtain ⟨hA, ⟨S, H⟩, k0, k0b, hm2⟩ := hI
   try dsimp only at k0 k0b hm2
   obtain ⟨hsp2, hr2, _⟩ := sp_round (i := i.toNat) (but := but) (sp_ends (E := E) (L := L)) (l := L.take k.toNat) (fun x hx => List.mem_of_mem_take hx) hsp (by omega)
   rw [← hm2] at hsp2 hr2
   have hml2 := sp_len hsp2
   have hr3 : m.length ≤ m2.length := by obtain ⟨r9, e9⟩ := hr2; rw [e9, List.length_append]; omega
   replace hr2 : True ∧ ∃ r, m2 = m ++ r := ⟨tv, hr2⟩
   refine go_seq fun K28 hK28 => ?_
   refine go_seq fun K29 hK29 => ?_
   refine q_reg [(24, vl), (25, iv (L.length : Int))] [(3, iv but), (4, pv b2), (5, pv b4), (9, vr2), (10, iv i), (11, iv k), (26, .bool (decide (k < (L.length : Int))))] (TT ∧ (0 < Try.prog.cellsOf 27) ∧ (CellOk (On w27) b4 (0 + 1) (vl)) ∧ (LenOk vl (L.length : Int)) ∧ TT ∧ True) hA H ⟨tv, by decide +kernel, by exact box_cell H 1 rfl 1, by exact len_ok (H.arg hL), tv, tv⟩ fun a w30 hA H hG => ?_
   refine hK29 _ _ ?_
   refine go_cond hA (.tmp 26) (decide (k < (L.length : Int))) (fun hb31 => ?_) (fun hb31 => ?_)
   · have hhb31 := of_decide_eq_true hb31
     refine go_skip ?_
     refine hK28 _ _ ?_
     refine go_seq fun K32 hK32 => ?_
     refine go_block 3 ?_
     refine go_seq fun K33 hK33 => ?_
     have hx := hp3 k.toNat (by omega)
     have H0 := H
     have hM0 := H0.keeps none (.inl rfl)
     refine region_mix (But w30 none) [0, 1, 2, 3, 4, 5, 6, 7, 8, 9] 11 ?_
     replace H := H.drawn; have hD := But.drew w30 none
     generalize ({ w30 with drawn := w30.drawn + 1 } : World) = w34 at H hD ⊢
     refine m_take (n := 2) [0, 1, 2, 3, 4, 5, 6, 7, 8] #[true, true, true, true, true, true, true, true, true, false, false] [(30, ve), (32, vl), (35, iv (L.getD k.toNat 0)), (37, .agg #[.int .i64 ((E.getD (L.getD k.toNat 0).toNat (0, 0)).1), .int .i64 ((E.getD (L.getD k.toNat 0).toNat (0, 0)).2)])] [(3, iv but), (4, pv b2), (5, pv b4), (9, vr2), (10, iv i), (11, iv k), (37, .agg #[.int .i64 ((E.getD (L.getD k.toNat 0).toNat (0, 0)).1), .int .i64 ((E.getD (L.getD k.toNat 0).toNat (0, 0)).2)])] ((0 < Try.prog.cellsOf 22) ∧ (CellOk (But w30 none) b2 (0 + 1) (ve)) ∧ (0 < Try.prog.cellsOf 27) ∧ (CellOk (But w30 none) b4 (0 + 1) (vl)) ∧ TT ∧ ((Try.prog.info? 3).isSome = true ∧ IdxOk vl k) ∧ (CellOk (But w30 none) (hdB vl) (hdO vl + k.toNat * 1) (.int .i64 (L.getD k.toNat 0))) ∧ ((Try.prog.info? 99).isSome = true ∧ IdxOk ve (L.getD k.toNat 0)) ∧ ((Try.prog.info? 99).isSome = true ∧ RowOk (But w30 none) (hdB ve) (hdO ve + (L.getD k.toNat 0).toNat * 2) (Try.prog.cellsOf 99) #[.int .i64 ((E.getD (L.getD k.toNat 0).toNat (0, 0)).1), .int .i64 ((E.getD (L.getD k.toNat 0).toNat (0, 0)).2)]) ∧ True) hA hD ⟨by decide +kernel, by exact box_cellC (box_atC H0 none 2 rfl (fun e => by cases e)) 1, by decide +kernel, by exact box_cellC (box_atC H0 none 1 rfl (fun e => by cases e)) 1, tv, ⟨by kernel_rfl, by exact idx_ok (H0.argT hL) (by omega) (by omega)⟩, by exact cell_flatC hM0 (i := k) (H0.argT hL) (by omega) (by omega) 0 0, ⟨by kernel_rfl, by exact idx_ok (H0.argT hE) (by omega) (by omega)⟩, ⟨by kernel_rfl, by exact row_flatC hM0 (i := (L.getD k.toNat 0)) (H0.argT hE) (by omega) (by omega) (0, 0)⟩, tv⟩ fun a hA => ?_
     refine m_one 9 ?_; refine q_alloc 9 12 99 [.int .i64 0, .int .i64 0] [(3, iv but), (4, pv b2), (5, pv b4), (9, vr2), (10, iv i), (11, iv k), (37, .agg #[.int .i64 ((E.getD (L.getD k.toNat 0).toNat (0, 0)).1), .int .i64 ((E.getD (L.getD k.toNat 0).toNat (0, 0)).2)])] hA H fun b35 a w36 H hA hG hge_b35 => ?_
     replace hge_b35 := Nat.le_trans hD.1 hge_b35
     replace hD := hD.below hG
     refine ⟨fun _ => hD, ?_⟩
     refine m_one 10 ?_; refine q_store 10 99 (.tmp 12) (.tmp 37) 0 b35 (0) 99 [.int .i64 0, .int .i64 0] [.int .i64 ((E.getD (L.getD k.toNat 0).toNat (0, 0)).1), .int .i64 ((E.getD (L.getD k.toNat 0).toNat (0, 0)).2)] [.int .i64 ((E.getD (L.getD k.toNat 0).toNat (0, 0)).1), .int .i64 ((E.getD (L.getD k.toNat 0).toNat (0, 0)).2)] (.agg #[.int .i64 ((E.getD (L.getD k.toNat 0).toNat (0, 0)).1), .int .i64 ((E.getD (L.getD k.toNat 0).toNat (0, 0)).2)]) [(3, iv but), (4, pv b2), (5, pv b4), (9, vr2), (10, iv i), (11, iv k), (12, pv b35)] hA H rfl rfl (Nat.le_of_ble_eq_true (by kernel_rfl)) rfl (fun v hv => by simp only [List.mem_cons, List.not_mem_nil, or_false] at hv; rcases hv with rfl | rfl; exact rfl; exact rfl) fun a w37 H hA hG => ?_
     replace H : Fr _ _ _ [.box b35 99 [.int .i64 ((E.getD (L.getD k.toNat 0).toNat (0, 0)).1), .int .i64 ((E.getD (L.getD k.toNat 0).toNat (0, 0)).2)], .row 3 vr2 m2, .box b4 29 [vv, vl], .box b2 24 [.int .i64 n, ve]] := H
     refine ⟨fun h => absurd h (by decide), ?_⟩
     refine m_end ?_
     refine hK33 _ _ ?_
     refine go_seq fun K38 hK38 => ?_
     refine go_seq fun K39 hK39 => ?_
     refine q_draw [(39, iv ((E.getD (L.getD k.toNat 0).toNat (0, 0)).1)), (43, iv (m2.getD i.toNat 0)), (47, iv ((E.getD (L.getD k.toNat 0).toNat (0, 0)).2)), (54, iv ((E.getD (L.getD k.toNat 0).toNat (0, 0)).2)), (55, .bool (decide ((E.getD (L.getD k.toNat 0).toNat (0, 0)).2 ∈ m2)))] [(3, iv but), (4, pv b2), (5, pv b4), (9, vr2), (10, iv i), (11, iv k), (12, pv b35), (57, .bool (((decide ((E.getD (L.getD k.toNat 0).toNat (0, 0)).1 = (m2.getD i.toNat 0))) && (!decide ((E.getD (L.getD k.toNat 0).toNat (0, 0)).2 = but))) && (!(decide ((E.getD (L.getD k.toNat 0).toNat (0, 0)).2 ∈ m2)))))] ((0 < Try.prog.cellsOf 3) ∧ (CellOk (On w37) b35 (0 + 0) (.int .i64 ((E.getD (L.getD k.toNat 0).toNat (0, 0)).1))) ∧ TT ∧ TT ∧ ((Try.prog.info? 3).isSome = true ∧ IdxOk vr2 i) ∧ (CellOk (On w37) (hdB vr2) (hdO vr2 + i.toNat * 1) (.int .i64 (m2.getD i.toNat 0))) ∧ TT ∧ TT ∧ ((decide ((E.getD (L.getD k.toNat 0).toNat (0, 0)).1 = (m2.getD i.toNat 0))) = true → 0 < Try.prog.cellsOf 3) ∧ ((decide ((E.getD (L.getD k.toNat 0).toNat (0, 0)).1 = (m2.getD i.toNat 0))) = true → CellOk (On w37) b35 (0 + 1) (.int .i64 ((E.getD (L.getD k.toNat 0).toNat (0, 0)).2))) ∧ ((decide ((E.getD (L.getD k.toNat 0).toNat (0, 0)).1 = (m2.getD i.toNat 0))) = true → True) ∧ ((decide ((E.getD (L.getD k.toNat 0).toNat (0, 0)).1 = (m2.getD i.toNat 0))) = true → True) ∧ TT ∧ TT ∧ (((decide ((E.getD (L.getD k.toNat 0).toNat (0, 0)).1 = (m2.getD i.toNat 0))) && (!decide ((E.getD (L.getD k.toNat 0).toNat (0, 0)).2 = but))) = true → True) ∧ (((decide ((E.getD (L.getD k.toNat 0).toNat (0, 0)).1 = (m2.getD i.toNat 0))) && (!decide ((E.getD (L.getD k.toNat 0).toNat (0, 0)).2 = but))) = true → 0 < Try.prog.cellsOf 3) ∧ (((decide ((E.getD (L.getD k.toNat 0).toNat (0, 0)).1 = (m2.getD i.toNat 0))) && (!decide ((E.getD (L.getD k.toNat 0).toNat (0, 0)).2 = but))) = true → CellOk (On w37) b35 (0 + 1) (.int .i64 ((E.getD (L.getD k.toNat 0).toNat (0, 0)).2))) ∧ (((decide ((E.getD (L.getD k.toNat 0).toNat (0, 0)).1 = (m2.getD i.toNat 0))) && (!decide ((E.getD (L.getD k.toNat 0).toNat (0, 0)).2 = but))) = true → Callable Try.prog 24 ∧ CallOk Try.prog (On w37) 24 [vr2, .int .i64 ((E.getD (L.getD k.toNat 0).toNat (0, 0)).2)].toArray (.bool (decide ((E.getD (L.getD k.toNat 0).toNat (0, 0)).2 ∈ m2)))) ∧ (((decide ((E.getD (L.getD k.toNat 0).toNat (0, 0)).1 = (m2.getD i.toNat 0))) && (!decide ((E.getD (L.getD k.toNat 0).toNat (0, 0)).2 = but))) = true → True) ∧ TT ∧ True) hA H ⟨by decide +kernel, by exact box_cell H 0 rfl 0, tv, tv, ⟨by kernel_rfl, by exact idx_ok (H.out 1 rfl) (by omega) (by omega)⟩, by exact cell_flat (i := i) (H.out 1 rfl) (by omega) (by omega) 0 0, tv, tv, fun _ => by decide +kernel, fun _ => by exact box_cell H 0 rfl 1, fun _ => tv, fun _ => tv, tv, tv, fun _ => tv, fun _ => by decide +kernel, fun _ => by exact box_cell H 0 rfl 1, fun _ => ⟨callable_of, callOk_of fun w hw => by exact in_any vr2 m2 ((E.getD (L.getD k.toNat 0).toNat (0, 0)).2) w (((H.on hw).out 1 rfl))⟩, fun _ => tv, tv, tv⟩ fun a w40 hA H hG => ?_
     refine hK39 _ _ ?_
     refine go_cond hA (.tmp 57) (((decide ((E.getD (L.getD k.toNat 0).toNat (0, 0)).1 = (m2.getD i.toNat 0))) && (!decide ((E.getD (L.getD k.toNat 0).toNat (0, 0)).2 = but))) && (!(decide ((E.getD (L.getD k.toNat 0).toNat (0, 0)).2 ∈ m2)))) (fun hb41 => ?_) (fun hb41 => ?_)
     · have hhb41 := (⟨(⟨of_decide_eq_true ((aT ((aT hb41).1)).1), of_decide_eq_false (nT ((aT ((aT hb41).1)).2))⟩ : _ ∧ _), of_decide_eq_false (nT ((aT hb41).2))⟩ : _ ∧ _)
       refine region_list ?_
       refine q_list 0 3 [(60, iv ((E.getD (L.getD k.toNat 0).toNat (0, 0)).2))] [(3, iv but), (4, pv b2), (5, pv b4), (10, iv i), (11, iv k), (12, pv b35), (58, vr2), (60, iv ((E.getD (L.getD k.toNat 0).toNat (0, 0)).2))] (TT ∧ (0 < Try.prog.cellsOf 3) ∧ (CellOk (On w40) b35 (0 + 1) (.int .i64 ((E.getD (L.getD k.toNat 0).toNat (0, 0)).2))) ∧ True) hA H ⟨tv, by decide +kernel, by exact box_cell H 0 rfl 1, tv⟩ fun a w42 hA H hG => ?_
       refine list_at 3 ?_; refine q_lit 3 61 27 1 #[(0, .tmp 60)] 3 [(0, iv ((E.getD (L.getD k.toNat 0).toNat (0, 0)).2))] [.int .i64 ((E.getD (L.getD k.toNat 0).toNat (0, 0)).2)] [(3, iv but), (4, pv b2), (5, pv b4), (10, iv i), (11, iv k), (12, pv b35), (58, vr2)] hA H fun b43 a w44 H hA hG hge_b43 => ?_
       clear hge_b43
       refine list_at 4 ?_; refine q_push 4 62 (.tmp 58) (.tmp 61) 2 0 b43 1 1 vr2 m2 [(E.getD (L.getD k.toNat 0).toNat (0, 0)).2] [.int .i64 ((E.getD (L.getD k.toNat 0).toNat (0, 0)).2)] [(3, iv but), (4, pv b2), (5, pv b4), (10, iv i), (11, iv k), (12, pv b35)] hA H Try.E27 rfl rfl (by exact (RowRd.single (α := Int) rfl)) rfl (by simp only [List.length_cons, List.length_nil, List.length_append]; omega) (by decide) fun v45 a w46 H hA hG => ?_
       replace H : Fr _ _ _ [.box b35 99 [.int .i64 ((E.getD (L.getD k.toNat 0).toNat (0, 0)).1), .int .i64 ((E.getD (L.getD k.toNat 0).toNat (0, 0)).2)], .row 3 v45 (m2 ++ [(E.getD (L.getD k.toNat 0).toNat (0, 0)).2]), .box b4 29 [vv, vl], .box b2 24 [.int .i64 n, ve]] := H.drop 0
       refine q_list 5 1 [] [(3, iv but), (4, pv b2), (5, pv b4), (9, v45), (10, iv i), (11, iv k), (12, pv b35)] (TT ∧ True) hA H ⟨tv, tv⟩ fun a w47 hA H hG => ?_
       refine list_end ?_
       refine hK38 _ _ ?_
       refine go_seq fun K48 hK48 => ?_
       have hapl : (m2 ++ [(E.getD (L.getD k.toNat 0).toNat (0, 0)).2]).length = m2.length + 1 := by simp
       refine q_draw [(64, iv ((E.getD (L.getD k.toNat 0).toNat (0, 0)).2)), (68, iv ((m2 ++ [(E.getD (L.getD k.toNat 0).toNat (0, 0)).2]).getD i.toNat 0)), (72, iv ((E.getD (L.getD k.toNat 0).toNat (0, 0)).1)), (79, iv ((E.getD (L.getD k.toNat 0).toNat (0, 0)).1)), (80, .bool (decide ((E.getD (L.getD k.toNat 0).toNat (0, 0)).1 ∈ (m2 ++ [(E.getD (L.getD k.toNat 0).toNat (0, 0)).2]))))] [(3, iv but), (4, pv b2), (5, pv b4), (9, v45), (10, iv i), (11, iv k), (12, pv b35), (82, .bool (((decide ((E.getD (L.getD k.toNat 0).toNat (0, 0)).2 = ((m2 ++ [(E.getD (L.getD k.toNat 0).toNat (0, 0)).2]).getD i.toNat 0))) && (!decide ((E.getD (L.getD k.toNat 0).toNat (0, 0)).1 = but))) && (!(decide ((E.getD (L.getD k.toNat 0).toNat (0, 0)).1 ∈ (m2 ++ [(E.getD (L.getD k.toNat 0).toNat (0, 0)).2]))))))] ((0 < Try.prog.cellsOf 3) ∧ (CellOk (On w47) b35 (0 + 1) (.int .i64 ((E.getD (L.getD k.toNat 0).toNat (0, 0)).2))) ∧ TT ∧ TT ∧ ((Try.prog.info? 3).isSome = true ∧ IdxOk v45 i) ∧ (CellOk (On w47) (hdB v45) (hdO v45 + i.toNat * 1) (.int .i64 ((m2 ++ [(E.getD (L.getD k.toNat 0).toNat (0, 0)).2]).getD i.toNat 0))) ∧ TT ∧ TT ∧ ((decide ((E.getD (L.getD k.toNat 0).toNat (0, 0)).2 = ((m2 ++ [(E.getD (L.getD k.toNat 0).toNat (0, 0)).2]).getD i.toNat 0))) = true → 0 < Try.prog.cellsOf 3) ∧ ((decide ((E.getD (L.getD k.toNat 0).toNat (0, 0)).2 = ((m2 ++ [(E.getD (L.getD k.toNat 0).toNat (0, 0)).2]).getD i.toNat 0))) = true → CellOk (On w47) b35 (0 + 0) (.int .i64 ((E.getD (L.getD k.toNat 0).toNat (0, 0)).1))) ∧ ((decide ((E.getD (L.getD k.toNat 0).toNat (0, 0)).2 = ((m2 ++ [(E.getD (L.getD k.toNat 0).toNat (0, 0)).2]).getD i.toNat 0))) = true → True) ∧ ((decide ((E.getD (L.getD k.toNat 0).toNat (0, 0)).2 = ((m2 ++ [(E.getD (L.getD k.toNat 0).toNat (0, 0)).2]).getD i.toNat 0))) = true → True) ∧ TT ∧ TT ∧ (((decide ((E.getD (L.getD k.toNat 0).toNat (0, 0)).2 = ((m2 ++ [(E.getD (L.getD k.toNat 0).toNat (0, 0)).2]).getD i.toNat 0))) && (!decide ((E.getD (L.getD k.toNat 0).toNat (0, 0)).1 = but))) = true → True) ∧ (((decide ((E.getD (L.getD k.toNat 0).toNat (0, 0)).2 = ((m2 ++ [(E.getD (L.getD k.toNat 0).toNat (0, 0)).2]).getD i.toNat 0))) && (!decide ((E.getD (L.getD k.toNat 0).toNat (0, 0)).1 = but))) = true → 0 < Try.prog.cellsOf 3) ∧ (((decide ((E.getD (L.getD k.toNat 0).toNat (0, 0)).2 = ((m2 ++ [(E.getD (L.getD k.toNat 0).toNat (0, 0)).2]).getD i.toNat 0))) && (!decide ((E.getD (L.getD k.toNat 0).toNat (0, 0)).1 = but))) = true → CellOk (On w47) b35 (0 + 0) (.int .i64 ((E.getD (L.getD k.toNat 0).toNat (0, 0)).1))) ∧ (((decide ((E.getD (L.getD k.toNat 0).toNat (0, 0)).2 = ((m2 ++ [(E.getD (L.getD k.toNat 0).toNat (0, 0)).2]).getD i.toNat 0))) && (!decide ((E.getD (L.getD k.toNat 0).toNat (0, 0)).1 = but))) = true → Callable Try.prog 24 ∧ CallOk Try.prog (On w47) 24 [v45, .int .i64 ((E.getD (L.getD k.toNat 0).toNat (0, 0)).1)].toArray (.bool (decide ((E.getD (L.getD k.toNat 0).toNat (0, 0)).1 ∈ (m2 ++ [(E.getD (L.getD k.toNat 0).toNat (0, 0)).2]))))) ∧ (((decide ((E.getD (L.getD k.toNat 0).toNat (0, 0)).2 = ((m2 ++ [(E.getD (L.getD k.toNat 0).toNat (0, 0)).2]).getD i.toNat 0))) && (!decide ((E.getD (L.getD k.toNat 0).toNat (0, 0)).1 = but))) = true → True) ∧ TT ∧ True) hA H ⟨by decide +kernel, by exact box_cell H 0 rfl 1, tv, tv, ⟨by kernel_rfl, by exact idx_ok (H.out 1 rfl) (by omega) (by omega)⟩, by exact cell_flat (i := i) (H.out 1 rfl) (by omega) (by omega) 0 0, tv, tv, fun _ => by decide +kernel, fun _ => by exact box_cell H 0 rfl 0, fun _ => tv, fun _ => tv, tv, tv, fun _ => tv, fun _ => by decide +kernel, fun _ => by exact box_cell H 0 rfl 0, fun _ => ⟨callable_of, callOk_of fun w hw => by exact in_any v45 (m2 ++ [(E.getD (L.getD k.toNat 0).toNat (0, 0)).2]) ((E.getD (L.getD k.toNat 0).toNat (0, 0)).1) w (((H.on hw).out 1 rfl))⟩, fun _ => tv, tv, tv⟩ fun a w49 hA H hG => ?_
       refine hK48 _ _ ?_
       refine go_cond hA (.tmp 82) (((decide ((E.getD (L.getD k.toNat 0).toNat (0, 0)).2 = ((m2 ++ [(E.getD (L.getD k.toNat 0).toNat (0, 0)).2]).getD i.toNat 0))) && (!decide ((E.getD (L.getD k.toNat 0).toNat (0, 0)).1 = but))) && (!(decide ((E.getD (L.getD k.toNat 0).toNat (0, 0)).1 ∈ (m2 ++ [(E.getD (L.getD k.toNat 0).toNat (0, 0)).2]))))) (fun hb50 => ?_) (fun hb50 => ?_)
       · have hhb50 := (⟨(⟨of_decide_eq_true ((aT ((aT hb50).1)).1), of_decide_eq_false (nT ((aT ((aT hb50).1)).2))⟩ : _ ∧ _), of_decide_eq_false (nT ((aT hb50).2))⟩ : _ ∧ _)
         refine region_list ?_
         refine q_list 0 3 [(85, iv ((E.getD (L.getD k.toNat 0).toNat (0, 0)).1))] [(3, iv but), (4, pv b2), (5, pv b4), (10, iv i), (11, iv k), (83, v45), (85, iv ((E.getD (L.getD k.toNat 0).toNat (0, 0)).1))] (TT ∧ (0 < Try.prog.cellsOf 3) ∧ (CellOk (On w49) b35 (0 + 0) (.int .i64 ((E.getD (L.getD k.toNat 0).toNat (0, 0)).1))) ∧ True) hA H ⟨tv, by decide +kernel, by exact box_cell H 0 rfl 0, tv⟩ fun a w51 hA H hG => ?_
         refine list_at 3 ?_; refine q_lit 3 86 27 1 #[(0, .tmp 85)] 3 [(0, iv ((E.getD (L.getD k.toNat 0).toNat (0, 0)).1))] [.int .i64 ((E.getD (L.getD k.toNat 0).toNat (0, 0)).1)] [(3, iv but), (4, pv b2), (5, pv b4), (10, iv i), (11, iv k), (83, v45)] hA H fun b52 a w53 H hA hG hge_b52 => ?_
         clear hge_b52
         refine list_at 4 ?_; refine q_push 4 87 (.tmp 83) (.tmp 86) 2 0 b52 1 1 v45 (m2 ++ [(E.getD (L.getD k.toNat 0).toNat (0, 0)).2]) [(E.getD (L.getD k.toNat 0).toNat (0, 0)).1] [.int .i64 ((E.getD (L.getD k.toNat 0).toNat (0, 0)).1)] [(3, iv but), (4, pv b2), (5, pv b4), (10, iv i), (11, iv k)] hA H Try.E27 rfl rfl (by exact (RowRd.single (α := Int) rfl)) rfl (by simp only [List.length_cons, List.length_nil, List.length_append]; omega) (by decide) fun v54 a w55 H hA hG => ?_
         replace H : Fr _ _ _ [.box b35 99 [.int .i64 ((E.getD (L.getD k.toNat 0).toNat (0, 0)).1), .int .i64 ((E.getD (L.getD k.toNat 0).toNat (0, 0)).2)], .row 3 v54 ((m2 ++ [(E.getD (L.getD k.toNat 0).toNat (0, 0)).2]) ++ [(E.getD (L.getD k.toNat 0).toNat (0, 0)).1]), .box b4 29 [vv, vl], .box b2 24 [.int .i64 n, ve]] := H.drop 0
         refine q_list 5 1 [] [(3, iv but), (4, pv b2), (5, pv b4), (9, v54), (10, iv i), (11, iv k)] (TT ∧ True) hA H ⟨tv, tv⟩ fun a w56 hA H hG => ?_
         refine list_end ?_
         refine hK32 _ _ ?_
         refine q_reg [] [(3, iv but), (4, pv b2), (5, pv b4), (9, v54), (10, iv i), (11, iv (k + 1))] (TT ∧ (InR .i64 (k + 1)) ∧ TT ∧ True) hA H ⟨tv, ⟨by omega, by omega⟩, tv, tv⟩ fun a w57 hA H hG => ?_
         replace H := H.drop 0
         refine ⟨(k + 1, v54, (m2 ++ [(E.getD (L.getD k.toNat 0).toNat (0, 0)).2]) ++ [(E.getD (L.getD k.toNat 0).toNat (0, 0)).1]), ⟨env_sub _ hA, ⟨_, H⟩, ?_⟩, ?_⟩
         · (try dsimp only); refine ⟨by omega, by omega, ?_⟩; rw [spRound_snoc k0 (by omega), ← hm2, spStep_b, hb41]; dsimp only [cond_true, cond_false]; rw [hb50]; rfl
         (try dsimp only); omega
       have hhb50 := (aF hb50).imp (fun h => (aF h).imp (fun h => of_decide_eq_false h) (fun h => of_decide_eq_true (nF h))) (fun h => of_decide_eq_true (nF h))
       refine go_skip ?_
       refine hK32 _ _ ?_
       refine q_reg [] [(3, iv but), (4, pv b2), (5, pv b4), (9, v45), (10, iv i), (11, iv (k + 1))] (TT ∧ (InR .i64 (k + 1)) ∧ TT ∧ True) hA H ⟨tv, ⟨by omega, by omega⟩, tv, tv⟩ fun a w58 hA H hG => ?_
       replace H := H.drop 0
       refine ⟨(k + 1, v45, m2 ++ [(E.getD (L.getD k.toNat 0).toNat (0, 0)).2]), ⟨env_sub _ hA, ⟨_, H⟩, ?_⟩, ?_⟩
       · (try dsimp only); refine ⟨by omega, by omega, ?_⟩; rw [spRound_snoc k0 (by omega), ← hm2, spStep_b, hb41]; dsimp only [cond_true, cond_false]; rw [hb50]; rfl
       (try dsimp only); omega
     have hhb41 := (aF hb41).imp (fun h => (aF h).imp (fun h => of_decide_eq_false h) (fun h => of_decide_eq_true (nF h))) (fun h => of_decide_eq_true (nF h))
     refine go_skip ?_
     refine hK38 _ _ ?_
     refine go_seq fun K59 hK59 => ?_
     refine q_draw [(64, iv ((E.getD (L.getD k.toNat 0).toNat (0, 0)).2)), (68, iv (m2.getD i.toNat 0)), (72, iv ((E.getD (L.getD k.toNat 0).toNat (0, 0)).1)), (79, iv ((E.getD (L.getD k.toNat 0).toNat (0, 0)).1)), (80, .bool (decide ((E.getD (L.getD k.toNat 0).toNat (0, 0)).1 ∈ m2)))] [(3, iv but), (4, pv b2), (5, pv b4), (9, vr2), (10, iv i), (11, iv k), (12, pv b35), (82, .bool (((decide ((E.getD (L.getD k.toNat 0).toNat (0, 0)).2 = (m2.getD i.toNat 0))) && (!decide ((E.getD (L.getD k.toNat 0).toNat (0, 0)).1 = but))) && (!(decide ((E.getD (L.getD k.toNat 0).toNat (0, 0)).1 ∈ m2)))))] ((0 < Try.prog.cellsOf 3) ∧ (CellOk (On w40) b35 (0 + 1) (.int .i64 ((E.getD (L.getD k.toNat 0).toNat (0, 0)).2))) ∧ TT ∧ TT ∧ ((Try.prog.info? 3).isSome = true ∧ IdxOk vr2 i) ∧ (CellOk (On w40) (hdB vr2) (hdO vr2 + i.toNat * 1) (.int .i64 (m2.getD i.toNat 0))) ∧ TT ∧ TT ∧ ((decide ((E.getD (L.getD k.toNat 0).toNat (0, 0)).2 = (m2.getD i.toNat 0))) = true → 0 < Try.prog.cellsOf 3) ∧ ((decide ((E.getD (L.getD k.toNat 0).toNat (0, 0)).2 = (m2.getD i.toNat 0))) = true → CellOk (On w40) b35 (0 + 0) (.int .i64 ((E.getD (L.getD k.toNat 0).toNat (0, 0)).1))) ∧ ((decide ((E.getD (L.getD k.toNat 0).toNat (0, 0)).2 = (m2.getD i.toNat 0))) = true → True) ∧ ((decide ((E.getD (L.getD k.toNat 0).toNat (0, 0)).2 = (m2.getD i.toNat 0))) = true → True) ∧ TT ∧ TT ∧ (((decide ((E.getD (L.getD k.toNat 0).toNat (0, 0)).2 = (m2.getD i.toNat 0))) && (!decide ((E.getD (L.getD k.toNat 0).toNat (0, 0)).1 = but))) = true → True) ∧ (((decide ((E.getD (L.getD k.toNat 0).toNat (0, 0)).2 = (m2.getD i.toNat 0))) && (!decide ((E.getD (L.getD k.toNat 0).toNat (0, 0)).1 = but))) = true → 0 < Try.prog.cellsOf 3) ∧ (((decide ((E.getD (L.getD k.toNat 0).toNat (0, 0)).2 = (m2.getD i.toNat 0))) && (!decide ((E.getD (L.getD k.toNat 0).toNat (0, 0)).1 = but))) = true → CellOk (On w40) b35 (0 + 0) (.int .i64 ((E.getD (L.getD k.toNat 0).toNat (0, 0)).1))) ∧ (((decide ((E.getD (L.getD k.toNat 0).toNat (0, 0)).2 = (m2.getD i.toNat 0))) && (!decide ((E.getD (L.getD k.toNat 0).toNat (0, 0)).1 = but))) = true → Callable Try.prog 24 ∧ CallOk Try.prog (On w40) 24 [vr2, .int .i64 ((E.getD (L.getD k.toNat 0).toNat (0, 0)).1)].toArray (.bool (decide ((E.getD (L.getD k.toNat 0).toNat (0, 0)).1 ∈ m2)))) ∧ (((decide ((E.getD (L.getD k.toNat 0).toNat (0, 0)).2 = (m2.getD i.toNat 0))) && (!decide ((E.getD (L.getD k.toNat 0).toNat (0, 0)).1 = but))) = true → True) ∧ TT ∧ True) hA H ⟨by decide +kernel, by exact box_cell H 0 rfl 1, tv, tv, ⟨by kernel_rfl, by exact idx_ok (H.out 1 rfl) (by omega) (by omega)⟩, by exact cell_flat (i := i) (H.out 1 rfl) (by omega) (by omega) 0 0, tv, tv, fun _ => by decide +kernel, fun _ => by exact box_cell H 0 rfl 0, fun _ => tv, fun _ => tv, tv, tv, fun _ => tv, fun _ => by decide +kernel, fun _ => by exact box_cell H 0 rfl 0, fun _ => ⟨callable_of, callOk_of fun w hw => by exact in_any vr2 m2 ((E.getD (L.getD k.toNat 0).toNat (0, 0)).1) w (((H.on hw).out 1 rfl))⟩, fun _ => tv, tv, tv⟩ fun a w60 hA H hG => ?_
     refine hK59 _ _ ?_
     refine go_cond hA (.tmp 82) (((decide ((E.getD (L.getD k.toNat 0).toNat (0, 0)).2 = (m2.getD i.toNat 0))) && (!decide ((E.getD (L.getD k.toNat 0).toNat (0, 0)).1 = but))) && (!(decide ((E.getD (L.getD k.toNat 0).toNat (0, 0)).1 ∈ m2)))) (fun hb61 => ?_) (fun hb61 => ?_)
     · have hhb61 := (⟨(⟨of_decide_eq_true ((aT ((aT hb61).1)).1), of_decide_eq_false (nT ((aT ((aT hb61).1)).2))⟩ : _ ∧ _), of_decide_eq_false (nT ((aT hb61).2))⟩ : _ ∧ _)
       refine region_list ?_
       refine q_list 0 3 [(85, iv ((E.getD (L.getD k.toNat 0).toNat (0, 0)).1))] [(3, iv but), (4, pv b2), (5, pv b4), (10, iv i), (11, iv k), (83, vr2), (85, iv ((E.getD (L.getD k.toNat 0).toNat (0, 0)).1))] (TT ∧ (0 < Try.prog.cellsOf 3) ∧ (CellOk (On w60) b35 (0 + 0) (.int .i64 ((E.getD (L.getD k.toNat 0).toNat (0, 0)).1))) ∧ True) hA H ⟨tv, by decide +kernel, by exact box_cell H 0 rfl 0, tv⟩ fun a w62 hA H hG => ?_
       refine list_at 3 ?_; refine q_lit 3 86 27 1 #[(0, .tmp 85)] 3 [(0, iv ((E.getD (L.getD k.toNat 0).toNat (0, 0)).1))] [.int .i64 ((E.getD (L.getD k.toNat 0).toNat (0, 0)).1)] [(3, iv but), (4, pv b2), (5, pv b4), (10, iv i), (11, iv k), (83, vr2)] hA H fun b63 a w64 H hA hG hge_b63 => ?_
       clear hge_b63
       refine list_at 4 ?_; refine q_push 4 87 (.tmp 83) (.tmp 86) 2 0 b63 1 1 vr2 m2 [(E.getD (L.getD k.toNat 0).toNat (0, 0)).1] [.int .i64 ((E.getD (L.getD k.toNat 0).toNat (0, 0)).1)] [(3, iv but), (4, pv b2), (5, pv b4), (10, iv i), (11, iv k)] hA H Try.E27 rfl rfl (by exact (RowRd.single (α := Int) rfl)) rfl (by simp only [List.length_cons, List.length_nil, List.length_append]; omega) (by decide) fun v65 a w66 H hA hG => ?_
       replace H : Fr _ _ _ [.box b35 99 [.int .i64 ((E.getD (L.getD k.toNat 0).toNat (0, 0)).1), .int .i64 ((E.getD (L.getD k.toNat 0).toNat (0, 0)).2)], .row 3 v65 (m2 ++ [(E.getD (L.getD k.toNat 0).toNat (0, 0)).1]), .box b4 29 [vv, vl], .box b2 24 [.int .i64 n, ve]] := H.drop 0
       refine q_list 5 1 [] [(3, iv but), (4, pv b2), (5, pv b4), (9, v65), (10, iv i), (11, iv k)] (TT ∧ True) hA H ⟨tv, tv⟩ fun a w67 hA H hG => ?_
       refine list_end ?_
       refine hK32 _ _ ?_
       refine q_reg [] [(3, iv but), (4, pv b2), (5, pv b4), (9, v65), (10, iv i), (11, iv (k + 1))] (TT ∧ (InR .i64 (k + 1)) ∧ TT ∧ True) hA H ⟨tv, ⟨by omega, by omega⟩, tv, tv⟩ fun a w68 hA H hG => ?_
       replace H := H.drop 0
       refine ⟨(k + 1, v65, m2 ++ [(E.getD (L.getD k.toNat 0).toNat (0, 0)).1]), ⟨env_sub _ hA, ⟨_, H⟩, ?_⟩, ?_⟩
       · (try dsimp only); refine ⟨by omega, by omega, ?_⟩; rw [spRound_snoc k0 (by omega), ← hm2, spStep_b, hb41]; dsimp only [cond_true, cond_false]; rw [hb61]; rfl
       (try dsimp only); omega
     have hhb61 := (aF hb61).imp (fun h => (aF h).imp (fun h => of_decide_eq_false h) (fun h => of_decide_eq_true (nF h))) (fun h => of_decide_eq_true (nF h))
     refine go_skip ?_
     refine hK32 _ _ ?_
     refine q_reg [] [(3, iv but), (4, pv b2), (5, pv b4), (9, vr2), (10, iv i), (11, iv (k + 1))] (TT ∧ (InR .i64 (k + 1)) ∧ TT ∧ True) hA H ⟨tv, ⟨by omega, by omega⟩, tv, tv⟩ fun a w69 hA H hG => ?_
     replace H := H.drop 0
     refine ⟨(k + 1, vr2, m2), ⟨env_sub _ hA, ⟨_, H⟩, ?_⟩, ?_⟩
     · (try dsimp only); refine ⟨by omega, by omega, ?_⟩; rw [spRound_snoc k0 (by omega), ← hm2, spStep_b, hb41]; dsimp only [cond_true, cond_false]; rw [hb61]; rfl
     (try dsimp only); omega
   have hhb31 := of_decide_eq_false hb31
   refine go_exit 2 ?_
   refine hK23 _ _ ?_
   refine q_reg [] [(3, iv but), (4, pv b2), (5, pv b4), (9, vr2), (10, iv (i + 1))] (TT ∧ (InR .i64 (i + 1)) ∧ TT ∧ True) hA H ⟨tv, ⟨by omega, by omega⟩, tv, tv⟩ fun a w70 hA H hG => ?_
   refine ⟨(i + 1, vr2, m2), ⟨env_sub _ hA, ⟨_, H⟩, ?_⟩, ?_⟩
   · (try dsimp only); exact ⟨by omega, by obtain ⟨_, r9, e9⟩ := hr2; rw [e9, List.length_append]; omega, hsp2, by rw [List.take_of_length_le (by omega)] at hm2; rw [hm2, ← spF_round h0 (by omega) (by omega)]; exact hsf⟩
   (try dsimp only); omega
 have hhb22 := of_decide_eq_false hb22
 refine go_exit 0 ?_
 refine hK14 _ _ ?_
 refine go_seq fun K71 hK71 => ?_
 refine q_reg [] [(8, vr)] (TT ∧ TT ∧ True) hA H ⟨tv, tv, tv⟩ fun a w72 hA H hG => ?_
 refine hK71 _ _ ?_
 refine go_ret_ ?_
 refine ret_one 8 vr hA ?_
 have ho := (H.give 0 rfl)
 rw [spF_end (by omega)] at hsf; rw [hsf] at ho; exact ⟨_, rfl, ho, H.below⟩
theorem apart_any (n : Int) (ve : Value) (E : List (Int × Int)) (vv vl : Value) (V L : List Int) (v e f : Int) (w : World) (hn : -9223372036854775808 ≤ n ∧ n ≤ 9223372036854775807) (hE : Rd (· < w.heap.size) w ve E) (hV : Rd (· < w.heap.size) w vv V) (hL : Rd (· < w.heap.size) w vl L) (hpt : partE n E V L = 0) (he : e ∈ L) (hf : f ∈ L) :
 Calls Try.prog 106 [.agg #[.int .i64 n, ve], .agg #[vv, vl], .int .i64 v, .int .i64 e, .int .i64 f].toArray w (Ans (.bool (apartB E L v e f)) w) := by
 obtain ⟨hp1, hp2, hp3, hp4⟩ := partE_0 hpt
 have hr9 := rightE_0 hp1
 have he9 := (rises_iff.1 hp3).2 _ he
 have hf9 := (rises_iff.1 hp3).2 _ hf
 refine enter Try.f106 73 Try.func106 fun a hA => ?_
 replace hA := env_sub [(0, .agg #[.int .i64 n, ve]), (1, .agg #[vv, vl]), (2, iv v), (3, iv e), (4, iv f)] hA
 have H := Fr.start (org w)
 refine go_seq fun K1 hK1 => ?_
 refine region_list ?_
 refine list_at 0 ?_; refine q_box 0 5 24 (.tmp 0) (.agg #[.int .i64 n, ve]) [.int .i64 n, ve] [(1, .agg #[vv, vl]), (2, iv v), (3, iv e), (4, iv f)] hA H fun b2 a w3 H hA hG hge_b2 => ?_
 clear hge_b2
 refine list_at 1 ?_; refine q_box 1 6 29 (.tmp 1) (.agg #[vv, vl]) [vv, vl] [(2, iv v), (3, iv e), (4, iv f), (5, pv b2)] hA H fun b4 a w5 H hA hG hge_b4 => ?_
 clear hge_b4
 refine q_list 2 1 [] [(2, iv v), (3, iv e), (4, iv f), (5, pv b2), (6, pv b4)] (TT ∧ True) hA H ⟨tv, tv⟩ fun a w6 hA H hG => ?_
 refine list_end ?_
 refine hK1 _ _ ?_
 refine go_seq fun K7 hK7 => ?_
 have H0 := H
 have hM0 := H0.keeps none (.inl rfl)
 refine region_mix (But w6 none) [0, 1, 2, 3, 4, 5, 6, 7, 8, 9, 10, 11, 12] 14 ?_
 replace H := H.drawn; have hD := But.drew w6 none
 generalize ({ w6 with drawn := w6.drawn + 1 } : World) = w8 at H hD ⊢
 refine m_take (n := 4) [0, 1, 2, 3, 4, 5, 6, 7, 8, 9] #[true, true, true, true, true, true, true, true, true, true, false, false, false, false] [(16, ve), (19, .agg #[.int .i64 ((E.getD e.toNat (0, 0)).1), .int .i64 ((E.getD e.toNat (0, 0)).2)]), (21, ve), (24, .agg #[.int .i64 ((E.getD f.toNat (0, 0)).1), .int .i64 ((E.getD f.toNat (0, 0)).2)])] [(2, iv v), (3, iv e), (4, iv f), (5, pv b2), (6, pv b4), (19, .agg #[.int .i64 ((E.getD e.toNat (0, 0)).1), .int .i64 ((E.getD e.toNat (0, 0)).2)]), (24, .agg #[.int .i64 ((E.getD f.toNat (0, 0)).1), .int .i64 ((E.getD f.toNat (0, 0)).2)])] ((0 < Try.prog.cellsOf 22) ∧ (CellOk (But w6 none) b2 (0 + 1) (ve)) ∧ TT ∧ ((Try.prog.info? 99).isSome = true ∧ IdxOk ve e) ∧ ((Try.prog.info? 99).isSome = true ∧ RowOk (But w6 none) (hdB ve) (hdO ve + e.toNat * 2) (Try.prog.cellsOf 99) #[.int .i64 ((E.getD e.toNat (0, 0)).1), .int .i64 ((E.getD e.toNat (0, 0)).2)]) ∧ (0 < Try.prog.cellsOf 22) ∧ (CellOk (But w6 none) b2 (0 + 1) (ve)) ∧ TT ∧ ((Try.prog.info? 99).isSome = true ∧ IdxOk ve f) ∧ ((Try.prog.info? 99).isSome = true ∧ RowOk (But w6 none) (hdB ve) (hdO ve + f.toNat * 2) (Try.prog.cellsOf 99) #[.int .i64 ((E.getD f.toNat (0, 0)).1), .int .i64 ((E.getD f.toNat (0, 0)).2)]) ∧ True) hA hD ⟨by decide +kernel, by exact box_cellC (box_atC H0 none 1 rfl (fun e => by cases e)) 1, tv, ⟨by kernel_rfl, by exact idx_ok (H0.argT hE) (by omega) (by omega)⟩, ⟨by kernel_rfl, by exact row_flatC hM0 (i := e) (H0.argT hE) (by omega) (by omega) (0, 0)⟩, by decide +kernel, by exact box_cellC (box_atC H0 none 1 rfl (fun e => by cases e)) 1, tv, ⟨by kernel_rfl, by exact idx_ok (H0.argT hE) (by omega) (by omega)⟩, ⟨by kernel_rfl, by exact row_flatC hM0 (i := f) (H0.argT hE) (by omega) (by omega) (0, 0)⟩, tv⟩ fun a hA => ?_
 refine mix_gen fun M hM => ?_
 have hM18 : ∀ (a : Act) (w23 : World) (S : Stab) (b9 : Nat) (hge_b9 : w6.heap.size ≤ b9) (b13 : Nat) (hge_b13 : w6.heap.size ≤ b13), EnvOk 73 a (keepEnv [(2, iv v), (3, iv e), (4, iv f), (5, pv b2), (6, pv b4), (11, pv b9), (12, pv b13), (24, .agg #[.int .i64 ((E.getD f.toNat (0, 0)).1), .int .i64 ((E.getD f.toNat (0, 0)).2)])]) → Fr (org w) w23 S [.box b13 99 [.int .i64 0, .int .i64 0], .box b9 99 [.int .i64 ((E.getD e.toNat (0, 0)).1), .int .i64 ((E.getD e.toNat (0, 0)).2)], .box b4 29 [vv, vl], .box b2 24 [.int .i64 n, ve]] → But w6 none w23 → M 1 #[true, true, true, true, true, true, true, true, true, true, true, true, true, false] a w23 := by
   intro a w23 S b9 hge_b9 b13 hge_b13 hA H hD
   refine (hM _ _ _ _).2 ?_
   refine m_one 13 ?_; refine q_store 13 99 (.tmp 12) (.tmp 24) 0 b13 (0) 99 [.int .i64 0, .int .i64 0] [.int .i64 ((E.getD f.toNat (0, 0)).1), .int .i64 ((E.getD f.toNat (0, 0)).2)] [.int .i64 ((E.getD f.toNat (0, 0)).1), .int .i64 ((E.getD f.toNat (0, 0)).2)] (.agg #[.int .i64 ((E.getD f.toNat (0, 0)).1), .int .i64 ((E.getD f.toNat (0, 0)).2)]) [(2, iv v), (3, iv e), (4, iv f), (5, pv b2), (6, pv b4), (11, pv b9), (12, pv b13)] hA H rfl rfl (Nat.le_of_ble_eq_true (by kernel_rfl)) rfl (fun v hv => by simp only [List.mem_cons, List.not_mem_nil, or_false] at hv; rcases hv with rfl | rfl; exact rfl; exact rfl) fun a w24 H hA hG => ?_
   replace H : Fr _ _ _ [.box b13 99 [.int .i64 ((E.getD f.toNat (0, 0)).1), .int .i64 ((E.getD f.toNat (0, 0)).2)], .box b9 99 [.int .i64 ((E.getD e.toNat (0, 0)).1), .int .i64 ((E.getD e.toNat (0, 0)).2)], .box b4 29 [vv, vl], .box b2 24 [.int .i64 n, ve]] := H
   refine ⟨fun h => absurd h (by decide), ?_⟩
   refine m_end ?_
   refine hK7 _ _ ?_
   refine go_seq fun K25 hK25 => ?_
   refine go_seq fun K26 hK26 => ?_
   refine q_reg [] [(2, iv v), (5, pv b2), (6, pv b4), (11, pv b9), (12, pv b13), (27, .bool (decide (e = f)))] (TT ∧ TT ∧ TT ∧ True) hA H ⟨tv, tv, tv, tv⟩ fun a w27 hA H hG => ?_
   refine hK26 _ _ ?_
   refine go_cond hA (.tmp 27) (decide (e = f)) (fun hb28 => ?_) (fun hb28 => ?_)
   · have hhb28 := of_decide_eq_true hb28
     refine go_seq fun K29 hK29 => ?_
     refine q_reg [] [(10, .bool false)] (TT ∧ True) hA H ⟨tv, tv⟩ fun a w30 hA H hG => ?_
     refine hK29 _ _ ?_
     refine go_ret_ ?_
     refine ret_one 10 (.bool false) hA ?_
     exact ans_b' (by unfold apartB; rw [if_pos hhb28]) H.below
   have hhb28 := of_decide_eq_false hb28
   refine go_skip ?_
   refine hK25 _ _ ?_
   refine go_seq fun K31 hK31 => ?_
   refine go_seq fun K32 hK32 => ?_
   refine q_reg [(29, iv ((E.getD e.toNat (0, 0)).1)), (34, iv ((E.getD e.toNat (0, 0)).2)), (40, iv ((E.getD f.toNat (0, 0)).1)), (45, iv ((E.getD f.toNat (0, 0)).2))] [(2, iv v), (5, pv b2), (6, pv b4), (11, pv b9), (12, pv b13), (49, .bool (((decide ((E.getD e.toNat (0, 0)).1 = v)) && (decide ((E.getD e.toNat (0, 0)).2 = v))) || ((decide ((E.getD f.toNat (0, 0)).1 = v)) && (decide ((E.getD f.toNat (0, 0)).2 = v)))))] ((0 < Try.prog.cellsOf 3) ∧ (CellOk (On w27) b9 (0 + 0) (.int .i64 ((E.getD e.toNat (0, 0)).1))) ∧ TT ∧ TT ∧ TT ∧ ((decide ((E.getD e.toNat (0, 0)).1 = v)) = true → 0 < Try.prog.cellsOf 3) ∧ ((decide ((E.getD e.toNat (0, 0)).1 = v)) = true → CellOk (On w27) b9 (0 + 1) (.int .i64 ((E.getD e.toNat (0, 0)).2))) ∧ ((decide ((E.getD e.toNat (0, 0)).1 = v)) = true → True) ∧ ((decide ((E.getD e.toNat (0, 0)).1 = v)) = true → True) ∧ TT ∧ TT ∧ (((decide ((E.getD e.toNat (0, 0)).1 = v)) && (decide ((E.getD e.toNat (0, 0)).2 = v))) = false → 0 < Try.prog.cellsOf 3) ∧ (((decide ((E.getD e.toNat (0, 0)).1 = v)) && (decide ((E.getD e.toNat (0, 0)).2 = v))) = false → CellOk (On w27) b13 (0 + 0) (.int .i64 ((E.getD f.toNat (0, 0)).1))) ∧ (((decide ((E.getD e.toNat (0, 0)).1 = v)) && (decide ((E.getD e.toNat (0, 0)).2 = v))) = false → True) ∧ (((decide ((E.getD e.toNat (0, 0)).1 = v)) && (decide ((E.getD e.toNat (0, 0)).2 = v))) = false → True) ∧ (((decide ((E.getD e.toNat (0, 0)).1 = v)) && (decide ((E.getD e.toNat (0, 0)).2 = v))) = false → True) ∧ (((decide ((E.getD e.toNat (0, 0)).1 = v)) && (decide ((E.getD e.toNat (0, 0)).2 = v))) = false → (decide ((E.getD f.toNat (0, 0)).1 = v)) = true → 0 < Try.prog.cellsOf 3) ∧ (((decide ((E.getD e.toNat (0, 0)).1 = v)) && (decide ((E.getD e.toNat (0, 0)).2 = v))) = false → (decide ((E.getD f.toNat (0, 0)).1 = v)) = true → CellOk (On w27) b13 (0 + 1) (.int .i64 ((E.getD f.toNat (0, 0)).2))) ∧ (((decide ((E.getD e.toNat (0, 0)).1 = v)) && (decide ((E.getD e.toNat (0, 0)).2 = v))) = false → (decide ((E.getD f.toNat (0, 0)).1 = v)) = true → True) ∧ (((decide ((E.getD e.toNat (0, 0)).1 = v)) && (decide ((E.getD e.toNat (0, 0)).2 = v))) = false → (decide ((E.getD f.toNat (0, 0)).1 = v)) = true → True) ∧ (((decide ((E.getD e.toNat (0, 0)).1 = v)) && (decide ((E.getD e.toNat (0, 0)).2 = v))) = false → True) ∧ TT ∧ True) hA H ⟨by decide +kernel, by exact box_cell H 1 rfl 0, tv, tv, tv, fun _ => by decide +kernel, fun _ => by exact box_cell H 1 rfl 1, fun _ => tv, fun _ => tv, tv, tv, fun _ => by decide +kernel, fun _ => by exact box_cell H 0 rfl 0, fun _ => tv, fun _ => tv, fun _ => tv, fun _ _ => by decide +kernel, fun _ _ => by exact box_cell H 0 rfl 1, fun _ _ => tv, fun _ _ => tv, fun _ => tv, tv, tv⟩ fun a w33 hA H hG => ?_
   refine hK32 _ _ ?_
   refine go_cond hA (.tmp 49) (((decide ((E.getD e.toNat (0, 0)).1 = v)) && (decide ((E.getD e.toNat (0, 0)).2 = v))) || ((decide ((E.getD f.toNat (0, 0)).1 = v)) && (decide ((E.getD f.toNat (0, 0)).2 = v)))) (fun hb34 => ?_) (fun hb34 => ?_)
   · have hhb34 := (oT hb34).imp (fun h => (⟨of_decide_eq_true ((aT h).1), of_decide_eq_true ((aT h).2)⟩ : _ ∧ _)) (fun h => (⟨of_decide_eq_true ((aT h).1), of_decide_eq_true ((aT h).2)⟩ : _ ∧ _))
     refine go_seq fun K35 hK35 => ?_
     refine q_reg [] [(10, .bool true)] (TT ∧ True) hA H ⟨tv, tv⟩ fun a w36 hA H hG => ?_
     refine hK35 _ _ ?_
     refine go_ret_ ?_
     refine ret_one 10 (.bool true) hA ?_
     exact ans_b' (by unfold apartB eA eB; rw [if_neg hhb28, if_pos (by have := hhb34; omega)]) H.below
   have hhb34 := (⟨(aF ((oF hb34).1)).imp (fun h => of_decide_eq_false h) (fun h => of_decide_eq_false h), (aF ((oF hb34).2)).imp (fun h => of_decide_eq_false h) (fun h => of_decide_eq_false h)⟩ : _ ∧ _)
   refine go_skip ?_
   refine hK31 _ _ ?_
   refine go_seq fun K37 hK37 => ?_
   refine q_draw [(51, iv ((E.getD e.toNat (0, 0)).1)), (53, iv ((E.getD f.toNat (0, 0)).1))] [(2, iv v), (5, pv b2), (6, pv b4), (11, pv b9), (12, pv b13), (13, iv ((E.getD e.toNat (0, 0)).1)), (14, iv ((E.getD f.toNat (0, 0)).1))] ((0 < Try.prog.cellsOf 3) ∧ (CellOk (On w33) b9 (0 + 0) (.int .i64 ((E.getD e.toNat (0, 0)).1))) ∧ (0 < Try.prog.cellsOf 3) ∧ (CellOk (On w33) b13 (0 + 0) (.int .i64 ((E.getD f.toNat (0, 0)).1))) ∧ TT ∧ TT ∧ True) hA H ⟨by decide +kernel, by exact box_cell H 1 rfl 0, by decide +kernel, by exact box_cell H 0 rfl 0, tv, tv, tv⟩ fun a w38 hA H hG => ?_
   refine hK37 _ _ ?_
   refine go_seq fun K39 hK39 => ?_
   refine go_seq fun K40 hK40 => ?_
   refine q_reg [] [(2, iv v), (5, pv b2), (6, pv b4), (11, pv b9), (12, pv b13), (13, iv ((E.getD e.toNat (0, 0)).1)), (14, iv ((E.getD f.toNat (0, 0)).1)), (56, .bool (decide ((E.getD e.toNat (0, 0)).1 = v)))] (TT ∧ TT ∧ TT ∧ True) hA H ⟨tv, tv, tv, tv⟩ fun a w41 hA H hG => ?_
   refine hK40 _ _ ?_
   refine go_cond hA (.tmp 56) (decide ((E.getD e.toNat (0, 0)).1 = v)) (fun hb42 => ?_) (fun hb42 => ?_)
   · have hhb42 := of_decide_eq_true hb42
     refine q_reg [(58, iv ((E.getD e.toNat (0, 0)).2))] [(2, iv v), (5, pv b2), (6, pv b4), (12, pv b13), (13, iv ((E.getD e.toNat (0, 0)).2)), (14, iv ((E.getD f.toNat (0, 0)).1))] ((0 < Try.prog.cellsOf 3) ∧ (CellOk (On w41) b9 (0 + 1) (.int .i64 ((E.getD e.toNat (0, 0)).2))) ∧ TT ∧ True) hA H ⟨by decide +kernel, by exact box_cell H 1 rfl 1, tv, tv⟩ fun a w43 hA H hG => ?_
     refine hK39 _ _ ?_
     refine go_seq fun K44 hK44 => ?_
     refine go_seq fun K45 hK45 => ?_
     refine q_reg [] [(2, iv v), (5, pv b2), (6, pv b4), (12, pv b13), (13, iv ((E.getD e.toNat (0, 0)).2)), (14, iv ((E.getD f.toNat (0, 0)).1)), (61, .bool (decide ((E.getD f.toNat (0, 0)).1 = v)))] (TT ∧ TT ∧ TT ∧ True) hA H ⟨tv, tv, tv, tv⟩ fun a w46 hA H hG => ?_
     refine hK45 _ _ ?_
     refine go_cond hA (.tmp 61) (decide ((E.getD f.toNat (0, 0)).1 = v)) (fun hb47 => ?_) (fun hb47 => ?_)
     · have hhb47 := of_decide_eq_true hb47
       refine q_reg [(63, iv ((E.getD f.toNat (0, 0)).2))] [(2, iv v), (5, pv b2), (6, pv b4), (13, iv ((E.getD e.toNat (0, 0)).2)), (14, iv ((E.getD f.toNat (0, 0)).2))] ((0 < Try.prog.cellsOf 3) ∧ (CellOk (On w46) b13 (0 + 1) (.int .i64 ((E.getD f.toNat (0, 0)).2))) ∧ TT ∧ True) hA H ⟨by decide +kernel, by exact box_cell H 0 rfl 1, tv, tv⟩ fun a w48 hA H hG => ?_
       refine hK44 _ _ ?_
       refine go_seq fun K49 hK49 => ?_
       refine region_list ?_
       refine q_list 0 3 [(64, .agg #[.int .i64 n, ve]), (65, .agg #[vv, vl])] [(2, iv v), (14, iv ((E.getD f.toNat (0, 0)).2)), (64, .agg #[.int .i64 n, ve]), (65, .agg #[vv, vl]), (66, iv ((E.getD e.toNat (0, 0)).2))] (((Try.prog.info? 24).isSome = true ∧ RowOk (On w48) b2 (0) (Try.prog.cellsOf 24) #[.int .i64 n, ve]) ∧ ((Try.prog.info? 29).isSome = true ∧ RowOk (On w48) b4 (0) (Try.prog.cellsOf 29) #[vv, vl]) ∧ TT ∧ True) hA H ⟨⟨by kernel_rfl, by exact box_row H 3 rfl 0 2⟩, ⟨by kernel_rfl, by exact box_row H 2 rfl 0 2⟩, tv, tv⟩ fun a w50 hA H hG => ?_
       refine list_at 3 ?_; refine q_lit 3 67 27 1 #[(0, .tmp 66)] 3 [(0, iv ((E.getD e.toNat (0, 0)).2))] [.int .i64 ((E.getD e.toNat (0, 0)).2)] [(2, iv v), (14, iv ((E.getD f.toNat (0, 0)).2)), (64, .agg #[.int .i64 n, ve]), (65, .agg #[vv, vl])] hA H fun b51 a w52 H hA hG hge_b51 => ?_
       clear hge_b51
       refine q_list 4 1 [] [(14, iv ((E.getD f.toNat (0, 0)).2)), (64, .agg #[.int .i64 n, ve]), (65, .agg #[vv, vl]), (67, (.slice (some ⟨b51, 0, none⟩) 1 1)), (68, iv v)] (TT ∧ True) hA H ⟨tv, tv⟩ fun a w53 hA H hG => ?_
       refine list_at 5 ?_; refine q_call 5 69 131 #[.tmp 64, .tmp 65, .tmp 67, .tmp 68] #[24, 29, 27, 3] [.agg #[.int .i64 n, ve], .agg #[vv, vl], (.slice (some ⟨b51, 0, none⟩) 1 1), .int .i64 v] (fun S v_ w' => Rd S w' v_ (spread E L ((E.getD e.toNat (0, 0)).2) v)) [(14, iv ((E.getD f.toNat (0, 0)).2))] hA H (by exact spread_any n ve E vv vl V L (.slice (some ⟨b51, 0, none⟩) 1 1) ((E.getD e.toNat (0, 0)).2) v H.at (by omega) ((H.arg hE)) ((H.arg hV)) ((H.arg hL)) ((H.lit 0 rfl (by exact (RowRd.single (α := Int) (a := (E.getD e.toNat (0, 0)).2) (by exact rfl))) rfl (by decide))) hpt (by omega) (by first | exact mem_endsL.2 ⟨_, he, .inl rfl⟩ | exact mem_endsL.2 ⟨_, he, .inr rfl⟩)) fun v54 a w55 S hR56 H hA hG => ?_
       replace H := H.ro hR56
       refine q_list 6 4 [(71, .bool (decide ((E.getD f.toNat (0, 0)).2 ∈ (spread E L ((E.getD e.toNat (0, 0)).2) v))))] [(10, .bool (!(decide ((E.getD f.toNat (0, 0)).2 ∈ (spread E L ((E.getD e.toNat (0, 0)).2) v)))))] (TT ∧ (Callable Try.prog 24 ∧ CallOk Try.prog (On w55) 24 [v54, .int .i64 ((E.getD f.toNat (0, 0)).2)].toArray (.bool (decide ((E.getD f.toNat (0, 0)).2 ∈ (spread E L ((E.getD e.toNat (0, 0)).2) v))))) ∧ TT ∧ TT ∧ True) hA H ⟨tv, ⟨callable_of, callOk_of fun w hw => by exact in_any v54 (spread E L ((E.getD e.toNat (0, 0)).2) v) ((E.getD f.toNat (0, 0)).2) w (((H.on hw).get 0 rfl))⟩, tv, tv, tv⟩ fun a w58 hA H hG => ?_
       refine list_end ?_
       refine hK49 _ _ ?_
       refine go_ret_ ?_
       refine ret_one 10 (.bool (!(decide ((E.getD f.toNat (0, 0)).2 ∈ (spread E L ((E.getD e.toNat (0, 0)).2) v))))) hA ?_
       exact ans_b' (by unfold apartB otherE eA eB; rw [if_neg hhb28, if_neg (by have := hhb34; omega)]; first | rw [if_pos hhb47, if_pos hhb42] | rw [if_pos hhb47, if_neg hhb42] | rw [if_neg hhb47, if_pos hhb42] | rw [if_neg hhb47, if_neg hhb42]) H.below
     have hhb47 := of_decide_eq_false hb47
     refine go_skip ?_
     refine hK44 _ _ ?_
     refine go_seq fun K59 hK59 => ?_
     refine region_list ?_
     refine q_list 0 3 [(64, .agg #[.int .i64 n, ve]), (65, .agg #[vv, vl])] [(2, iv v), (14, iv ((E.getD f.toNat (0, 0)).1)), (64, .agg #[.int .i64 n, ve]), (65, .agg #[vv, vl]), (66, iv ((E.getD e.toNat (0, 0)).2))] (((Try.prog.info? 24).isSome = true ∧ RowOk (On w46) b2 (0) (Try.prog.cellsOf 24) #[.int .i64 n, ve]) ∧ ((Try.prog.info? 29).isSome = true ∧ RowOk (On w46) b4 (0) (Try.prog.cellsOf 29) #[vv, vl]) ∧ TT ∧ True) hA H ⟨⟨by kernel_rfl, by exact box_row H 3 rfl 0 2⟩, ⟨by kernel_rfl, by exact box_row H 2 rfl 0 2⟩, tv, tv⟩ fun a w60 hA H hG => ?_
     refine list_at 3 ?_; refine q_lit 3 67 27 1 #[(0, .tmp 66)] 3 [(0, iv ((E.getD e.toNat (0, 0)).2))] [.int .i64 ((E.getD e.toNat (0, 0)).2)] [(2, iv v), (14, iv ((E.getD f.toNat (0, 0)).1)), (64, .agg #[.int .i64 n, ve]), (65, .agg #[vv, vl])] hA H fun b61 a w62 H hA hG hge_b61 => ?_
     clear hge_b61
     refine q_list 4 1 [] [(14, iv ((E.getD f.toNat (0, 0)).1)), (64, .agg #[.int .i64 n, ve]), (65, .agg #[vv, vl]), (67, (.slice (some ⟨b61, 0, none⟩) 1 1)), (68, iv v)] (TT ∧ True) hA H ⟨tv, tv⟩ fun a w63 hA H hG => ?_
     refine list_at 5 ?_; refine q_call 5 69 131 #[.tmp 64, .tmp 65, .tmp 67, .tmp 68] #[24, 29, 27, 3] [.agg #[.int .i64 n, ve], .agg #[vv, vl], (.slice (some ⟨b61, 0, none⟩) 1 1), .int .i64 v] (fun S v_ w' => Rd S w' v_ (spread E L ((E.getD e.toNat (0, 0)).2) v)) [(14, iv ((E.getD f.toNat (0, 0)).1))] hA H (by exact spread_any n ve E vv vl V L (.slice (some ⟨b61, 0, none⟩) 1 1) ((E.getD e.toNat (0, 0)).2) v H.at (by omega) ((H.arg hE)) ((H.arg hV)) ((H.arg hL)) ((H.lit 0 rfl (by exact (RowRd.single (α := Int) (a := (E.getD e.toNat (0, 0)).2) (by exact rfl))) rfl (by decide))) hpt (by omega) (by first | exact mem_endsL.2 ⟨_, he, .inl rfl⟩ | exact mem_endsL.2 ⟨_, he, .inr rfl⟩)) fun v64 a w65 S hR66 H hA hG => ?_
     replace H := H.ro hR66
     refine q_list 6 4 [(71, .bool (decide ((E.getD f.toNat (0, 0)).1 ∈ (spread E L ((E.getD e.toNat (0, 0)).2) v))))] [(10, .bool (!(decide ((E.getD f.toNat (0, 0)).1 ∈ (spread E L ((E.getD e.toNat (0, 0)).2) v)))))] (TT ∧ (Callable Try.prog 24 ∧ CallOk Try.prog (On w65) 24 [v64, .int .i64 ((E.getD f.toNat (0, 0)).1)].toArray (.bool (decide ((E.getD f.toNat (0, 0)).1 ∈ (spread E L ((E.getD e.toNat (0, 0)).2) v))))) ∧ TT ∧ TT ∧ True) hA H ⟨tv, ⟨callable_of, callOk_of fun w hw => by exact in_any v64 (spread E L ((E.getD e.toNat (0, 0)).2) v) ((E.getD f.toNat (0, 0)).1) w (((H.on hw).get 0 rfl))⟩, tv, tv, tv⟩ fun a w68 hA H hG => ?_
     refine list_end ?_
     refine hK59 _ _ ?_
     refine go_ret_ ?_
     refine ret_one 10 (.bool (!(decide ((E.getD f.toNat (0, 0)).1 ∈ (spread E L ((E.getD e.toNat (0, 0)).2) v))))) hA ?_
     exact ans_b' (by unfold apartB otherE eA eB; rw [if_neg hhb28, if_neg (by have := hhb34; omega)]; first | rw [if_pos hhb47, if_pos hhb42] | rw [if_pos hhb47, if_neg hhb42] | rw [if_neg hhb47, if_pos hhb42] | rw [if_neg hhb47, if_neg hhb42]) H.below
   have hhb42 := of_decide_eq_false hb42
   refine go_skip ?_
   refine hK39 _ _ ?_
   refine go_seq fun K69 hK69 => ?_
   refine go_seq fun K70 hK70 => ?_
   refine q_reg [] [(2, iv v), (5, pv b2), (6, pv b4), (12, pv b13), (13, iv ((E.getD e.toNat (0, 0)).1)), (14, iv ((E.getD f.toNat (0, 0)).1)), (61, .bool (decide ((E.getD f.toNat (0, 0)).1 = v)))] (TT ∧ TT ∧ TT ∧ True) hA H ⟨tv, tv, tv, tv⟩ fun a w71 hA H hG => ?_
   refine hK70 _ _ ?_
   refine go_cond hA (.tmp 61) (decide ((E.getD f.toNat (0, 0)).1 = v)) (fun hb72 => ?_) (fun hb72 => ?_)
   · have hhb72 := of_decide_eq_true hb72
     refine q_reg [(63, iv ((E.getD f.toNat (0, 0)).2))] [(2, iv v), (5, pv b2), (6, pv b4), (13, iv ((E.getD e.toNat (0, 0)).1)), (14, iv ((E.getD f.toNat (0, 0)).2))] ((0 < Try.prog.cellsOf 3) ∧ (CellOk (On w71) b13 (0 + 1) (.int .i64 ((E.getD f.toNat (0, 0)).2))) ∧ TT ∧ True) hA H ⟨by decide +kernel, by exact box_cell H 0 rfl 1, tv, tv⟩ fun a w73 hA H hG => ?_
     refine hK69 _ _ ?_
     refine go_seq fun K74 hK74 => ?_
     refine region_list ?_
     refine q_list 0 3 [(64, .agg #[.int .i64 n, ve]), (65, .agg #[vv, vl])] [(2, iv v), (14, iv ((E.getD f.toNat (0, 0)).2)), (64, .agg #[.int .i64 n, ve]), (65, .agg #[vv, vl]), (66, iv ((E.getD e.toNat (0, 0)).1))] (((Try.prog.info? 24).isSome = true ∧ RowOk (On w73) b2 (0) (Try.prog.cellsOf 24) #[.int .i64 n, ve]) ∧ ((Try.prog.info? 29).isSome = true ∧ RowOk (On w73) b4 (0) (Try.prog.cellsOf 29) #[vv, vl]) ∧ TT ∧ True) hA H ⟨⟨by kernel_rfl, by exact box_row H 3 rfl 0 2⟩, ⟨by kernel_rfl, by exact box_row H 2 rfl 0 2⟩, tv, tv⟩ fun a w75 hA H hG => ?_
     refine list_at 3 ?_; refine q_lit 3 67 27 1 #[(0, .tmp 66)] 3 [(0, iv ((E.getD e.toNat (0, 0)).1))] [.int .i64 ((E.getD e.toNat (0, 0)).1)] [(2, iv v), (14, iv ((E.getD f.toNat (0, 0)).2)), (64, .agg #[.int .i64 n, ve]), (65, .agg #[vv, vl])] hA H fun b76 a w77 H hA hG hge_b76 => ?_
     clear hge_b76
     refine q_list 4 1 [] [(14, iv ((E.getD f.toNat (0, 0)).2)), (64, .agg #[.int .i64 n, ve]), (65, .agg #[vv, vl]), (67, (.slice (some ⟨b76, 0, none⟩) 1 1)), (68, iv v)] (TT ∧ True) hA H ⟨tv, tv⟩ fun a w78 hA H hG => ?_
     refine list_at 5 ?_; refine q_call 5 69 131 #[.tmp 64, .tmp 65, .tmp 67, .tmp 68] #[24, 29, 27, 3] [.agg #[.int .i64 n, ve], .agg #[vv, vl], (.slice (some ⟨b76, 0, none⟩) 1 1), .int .i64 v] (fun S v_ w' => Rd S w' v_ (spread E L ((E.getD e.toNat (0, 0)).1) v)) [(14, iv ((E.getD f.toNat (0, 0)).2))] hA H (by exact spread_any n ve E vv vl V L (.slice (some ⟨b76, 0, none⟩) 1 1) ((E.getD e.toNat (0, 0)).1) v H.at (by omega) ((H.arg hE)) ((H.arg hV)) ((H.arg hL)) ((H.lit 0 rfl (by exact (RowRd.single (α := Int) (a := (E.getD e.toNat (0, 0)).1) (by exact rfl))) rfl (by decide))) hpt (by omega) (by first | exact mem_endsL.2 ⟨_, he, .inl rfl⟩ | exact mem_endsL.2 ⟨_, he, .inr rfl⟩)) fun v79 a w80 S hR81 H hA hG => ?_
     replace H := H.ro hR81
     refine q_list 6 4 [(71, .bool (decide ((E.getD f.toNat (0, 0)).2 ∈ (spread E L ((E.getD e.toNat (0, 0)).1) v))))] [(10, .bool (!(decide ((E.getD f.toNat (0, 0)).2 ∈ (spread E L ((E.getD e.toNat (0, 0)).1) v)))))] (TT ∧ (Callable Try.prog 24 ∧ CallOk Try.prog (On w80) 24 [v79, .int .i64 ((E.getD f.toNat (0, 0)).2)].toArray (.bool (decide ((E.getD f.toNat (0, 0)).2 ∈ (spread E L ((E.getD e.toNat (0, 0)).1) v))))) ∧ TT ∧ TT ∧ True) hA H ⟨tv, ⟨callable_of, callOk_of fun w hw => by exact in_any v79 (spread E L ((E.getD e.toNat (0, 0)).1) v) ((E.getD f.toNat (0, 0)).2) w (((H.on hw).get 0 rfl))⟩, tv, tv, tv⟩ fun a w83 hA H hG => ?_
     refine list_end ?_
     refine hK74 _ _ ?_
     refine go_ret_ ?_
     refine ret_one 10 (.bool (!(decide ((E.getD f.toNat (0, 0)).2 ∈ (spread E L ((E.getD e.toNat (0, 0)).1) v))))) hA ?_
     exact ans_b' (by unfold apartB otherE eA eB; rw [if_neg hhb28, if_neg (by have := hhb34; omega)]; first | rw [if_pos hhb72, if_pos hhb42] | rw [if_pos hhb72, if_neg hhb42] | rw [if_neg hhb72, if_pos hhb42] | rw [if_neg hhb72, if_neg hhb42]) H.below
   have hhb72 := of_decide_eq_false hb72
   refine go_skip ?_
   refine hK69 _ _ ?_
   refine go_seq fun K84 hK84 => ?_
   refine region_list ?_
   refine q_list 0 3 [(64, .agg #[.int .i64 n, ve]), (65, .agg #[vv, vl])] [(2, iv v), (14, iv ((E.getD f.toNat (0, 0)).1)), (64, .agg #[.int .i64 n, ve]), (65, .agg #[vv, vl]), (66, iv ((E.getD e.toNat (0, 0)).1))] (((Try.prog.info? 24).isSome = true ∧ RowOk (On w71) b2 (0) (Try.prog.cellsOf 24) #[.int .i64 n, ve]) ∧ ((Try.prog.info? 29).isSome = true ∧ RowOk (On w71) b4 (0) (Try.prog.cellsOf 29) #[vv, vl]) ∧ TT ∧ True) hA H ⟨⟨by kernel_rfl, by exact box_row H 3 rfl 0 2⟩, ⟨by kernel_rfl, by exact box_row H 2 rfl 0 2⟩, tv, tv⟩ fun a w85 hA H hG => ?_
   refine list_at 3 ?_; refine q_lit 3 67 27 1 #[(0, .tmp 66)] 3 [(0, iv ((E.getD e.toNat (0, 0)).1))] [.int .i64 ((E.getD e.toNat (0, 0)).1)] [(2, iv v), (14, iv ((E.getD f.toNat (0, 0)).1)), (64, .agg #[.int .i64 n, ve]), (65, .agg #[vv, vl])] hA H fun b86 a w87 H hA hG hge_b86 => ?_
   clear hge_b86
   refine q_list 4 1 [] [(14, iv ((E.getD f.toNat (0, 0)).1)), (64, .agg #[.int .i64 n, ve]), (65, .agg #[vv, vl]), (67, (.slice (some ⟨b86, 0, none⟩) 1 1)), (68, iv v)] (TT ∧ True) hA H ⟨tv, tv⟩ fun a w88 hA H hG => ?_
   refine list_at 5 ?_; refine q_call 5 69 131 #[.tmp 64, .tmp 65, .tmp 67, .tmp 68] #[24, 29, 27, 3] [.agg #[.int .i64 n, ve], .agg #[vv, vl], (.slice (some ⟨b86, 0, none⟩) 1 1), .int .i64 v] (fun S v_ w' => Rd S w' v_ (spread E L ((E.getD e.toNat (0, 0)).1) v)) [(14, iv ((E.getD f.toNat (0, 0)).1))] hA H (by exact spread_any n ve E vv vl V L (.slice (some ⟨b86, 0, none⟩) 1 1) ((E.getD e.toNat (0, 0)).1) v H.at (by omega) ((H.arg hE)) ((H.arg hV)) ((H.arg hL)) ((H.lit 0 rfl (by exact (RowRd.single (α := Int) (a := (E.getD e.toNat (0, 0)).1) (by exact rfl))) rfl (by decide))) hpt (by omega) (by first | exact mem_endsL.2 ⟨_, he, .inl rfl⟩ | exact mem_endsL.2 ⟨_, he, .inr rfl⟩)) fun v89 a w90 S hR91 H hA hG => ?_
   replace H := H.ro hR91
   refine q_list 6 4 [(71, .bool (decide ((E.getD f.toNat (0, 0)).1 ∈ (spread E L ((E.getD e.toNat (0, 0)).1) v))))] [(10, .bool (!(decide ((E.getD f.toNat (0, 0)).1 ∈ (spread E L ((E.getD e.toNat (0, 0)).1) v)))))] (TT ∧ (Callable Try.prog 24 ∧ CallOk Try.prog (On w90) 24 [v89, .int .i64 ((E.getD f.toNat (0, 0)).1)].toArray (.bool (decide ((E.getD f.toNat (0, 0)).1 ∈ (spread E L ((E.getD e.toNat (0, 0)).1) v))))) ∧ TT ∧ TT ∧ True) hA H ⟨tv, ⟨callable_of, callOk_of fun w hw => by exact in_any v89 (spread E L ((E.getD e.toNat (0, 0)).1) v) ((E.getD f.toNat (0, 0)).1) w (((H.on hw).get 0 rfl))⟩, tv, tv, tv⟩ fun a w93 hA H hG => ?_
   refine list_end ?_
   refine hK84 _ _ ?_
   refine go_ret_ ?_
   refine ret_one 10 (.bool (!(decide ((E.getD f.toNat (0, 0)).1 ∈ (spread E L ((E.getD e.toNat (0, 0)).1) v))))) hA ?_
   exact ans_b' (by unfold apartB otherE eA eB; rw [if_neg hhb28, if_neg (by have := hhb34; omega)]; first | rw [if_pos hhb72, if_pos hhb42] | rw [if_pos hhb72, if_neg hhb42] | rw [if_neg hhb72, if_pos hhb42] | rw [if_neg hhb72, if_neg hhb42]) H.below
 have hM19 : ∀ (a : Act) (w94 : World) (S : Stab) (b9 : Nat) (hge_b9 : w6.heap.size ≤ b9) (b13 : Nat) (hge_b13 : w6.heap.size ≤ b13), EnvOk 73 a (keepEnv [(2, iv v), (3, iv e), (4, iv f), (5, pv b2), (6, pv b4), (11, pv b9), (12, pv b13), (19, .agg #[.int .i64 ((E.getD e.toNat (0, 0)).1), .int .i64 ((E.getD e.toNat (0, 0)).2)]), (24, .agg #[.int .i64 ((E.getD f.toNat (0, 0)).1), .int .i64 ((E.getD f.toNat (0, 0)).2)])]) → Fr (org w) w94 S [.box b13 99 [.int .i64 0, .int .i64 0], .box b9 99 [.int .i64 0, .int .i64 0], .box b4 29 [vv, vl], .box b2 24 [.int .i64 n, ve]] → But w6 none w94 → M 2 #[true, true, true, true, true, true, true, true, true, true, true, true, false, false] a w94 := by
   intro a w94 S b9 hge_b9 b13 hge_b13 hA H hD
   refine (hM _ _ _ _).2 ?_
   refine m_one 12 ?_; refine q_store 12 99 (.tmp 11) (.tmp 19) 1 b9 (0) 99 [.int .i64 0, .int .i64 0] [.int .i64 ((E.getD e.toNat (0, 0)).1), .int .i64 ((E.getD e.toNat (0, 0)).2)] [.int .i64 ((E.getD e.toNat (0, 0)).1), .int .i64 ((E.getD e.toNat (0, 0)).2)] (.agg #[.int .i64 ((E.getD e.toNat (0, 0)).1), .int .i64 ((E.getD e.toNat (0, 0)).2)]) [(2, iv v), (3, iv e), (4, iv f), (5, pv b2), (6, pv b4), (11, pv b9), (12, pv b13), (24, .agg #[.int .i64 ((E.getD f.toNat (0, 0)).1), .int .i64 ((E.getD f.toNat (0, 0)).2)])] hA H rfl rfl (Nat.le_of_ble_eq_true (by kernel_rfl)) rfl (fun v hv => by simp only [List.mem_cons, List.not_mem_nil, or_false] at hv; rcases hv with rfl | rfl; exact rfl; exact rfl) fun a w95 H hA hG => ?_
   replace H : Fr _ _ _ [.box b13 99 [.int .i64 0, .int .i64 0], .box b9 99 [.int .i64 ((E.getD e.toNat (0, 0)).1), .int .i64 ((E.getD e.toNat (0, 0)).2)], .box b4 29 [vv, vl], .box b2 24 [.int .i64 n, ve]] := H
   replace hD := hD.grown hG (fun b_ hb_ => .inr (by cases hb_; assumption))
   refine ⟨fun _ => hD, ?_⟩
   exact (hM _ _ _ _).1 (hM18 _ _ _ b9 hge_b9 b13 hge_b13 (env_sub _ hA) H hD)
 have hM20 : ∀ (a : Act) (w96 : World) (S : Stab) (b9 : Nat) (hge_b9 : w6.heap.size ≤ b9), EnvOk 73 a (keepEnv [(2, iv v), (3, iv e), (4, iv f), (5, pv b2), (6, pv b4), (11, pv b9), (19, .agg #[.int .i64 ((E.getD e.toNat (0, 0)).1), .int .i64 ((E.getD e.toNat (0, 0)).2)]), (24, .agg #[.int .i64 ((E.getD f.toNat (0, 0)).1), .int .i64 ((E.getD f.toNat (0, 0)).2)])]) → Fr (org w) w96 S [.box b9 99 [.int .i64 0, .int .i64 0], .box b4 29 [vv, vl], .box b2 24 [.int .i64 n, ve]] → But w6 none w96 → M 3 #[true, true, true, true, true, true, true, true, true, true, true, false, false, false] a w96 := by
   intro a w96 S b9 hge_b9 hA H hD
   refine (hM _ _ _ _).2 ?_
   refine m_one 11 ?_; refine q_alloc 11 12 99 [.int .i64 0, .int .i64 0] [(2, iv v), (3, iv e), (4, iv f), (5, pv b2), (6, pv b4), (11, pv b9), (19, .agg #[.int .i64 ((E.getD e.toNat (0, 0)).1), .int .i64 ((E.getD e.toNat (0, 0)).2)]), (24, .agg #[.int .i64 ((E.getD f.toNat (0, 0)).1), .int .i64 ((E.getD f.toNat (0, 0)).2)])] hA H fun b97 a w98 H hA hG hge_b97 => ?_
   replace hge_b97 := Nat.le_trans hD.1 hge_b97
   replace hD := hD.below hG
   refine ⟨fun _ => hD, ?_⟩
   exact (hM _ _ _ _).1 (hM19 _ _ _ b9 hge_b9 b97 hge_b97 (env_sub _ hA) H hD)
 have hM21 : ∀ (a : Act) (w99 : World) (S : Stab) (b11 : Nat) (hge_b11 : w6.heap.size ≤ b11), EnvOk 73 a (keepEnv [(2, iv v), (3, iv e), (4, iv f), (5, pv b2), (6, pv b4), (12, pv b11), (19, .agg #[.int .i64 ((E.getD e.toNat (0, 0)).1), .int .i64 ((E.getD e.toNat (0, 0)).2)]), (24, .agg #[.int .i64 ((E.getD f.toNat (0, 0)).1), .int .i64 ((E.getD f.toNat (0, 0)).2)])]) → Fr (org w) w99 S [.box b11 99 [.int .i64 0, .int .i64 0], .box b4 29 [vv, vl], .box b2 24 [.int .i64 n, ve]] → But w6 none w99 → M 3 #[true, true, true, true, true, true, true, true, true, true, false, true, false, false] a w99 := by
   intro a w99 S b11 hge_b11 hA H hD
   refine (hM _ _ _ _).2 ?_
   refine m_one 10 ?_; refine q_alloc 10 11 99 [.int .i64 0, .int .i64 0] [(2, iv v), (3, iv e), (4, iv f), (5, pv b2), (6, pv b4), (12, pv b11), (19, .agg #[.int .i64 ((E.getD e.toNat (0, 0)).1), .int .i64 ((E.getD e.toNat (0, 0)).2)]), (24, .agg #[.int .i64 ((E.getD f.toNat (0, 0)).1), .int .i64 ((E.getD f.toNat (0, 0)).2)])] hA H fun b100 a w101 H hA hG hge_b100 => ?_
   replace hge_b100 := Nat.le_trans hD.1 hge_b100
   replace H : Fr _ _ _ [.box b11 99 [.int .i64 0, .int .i64 0], .box b100 99 [.int .i64 0, .int .i64 0], .box b4 29 [vv, vl], .box b2 24 [.int .i64 n, ve]] := H.sink 1 1
   replace hD := hD.below hG
   refine ⟨fun _ => hD, ?_⟩
   exact (hM _ _ _ _).1 (hM19 _ _ _ b100 hge_b100 b11 hge_b11 (env_sub _ hA) H hD)
 have hM22 : ∀ (a : Act) (w102 : World) (S : Stab), EnvOk 73 a (keepEnv [(2, iv v), (3, iv e), (4, iv f), (5, pv b2), (6, pv b4), (19, .agg #[.int .i64 ((E.getD e.toNat (0, 0)).1), .int .i64 ((E.getD e.toNat (0, 0)).2)]), (24, .agg #[.int .i64 ((E.getD f.toNat (0, 0)).1), .int .i64 ((E.getD f.toNat (0, 0)).2)])]) → Fr (org w) w102 S [.box b4 29 [vv, vl], .box b2 24 [.int .i64 n, ve]] → But w6 none w102 → M 4 #[true, true, true, true, true, true, true, true, true, true, false, false, false, false] a w102 := by
   intro a w102 S  hA H hD
   refine (hM _ _ _ _).2 ?_
   refine m_many [10, 11] fun i_ hi_ => ?_
   simp only [List.mem_cons, List.not_mem_nil, or_false] at hi_
   rcases hi_ with rfl | rfl
   · skip
     refine q_alloc 10 11 99 [.int .i64 0, .int .i64 0] [(2, iv v), (3, iv e), (4, iv f), (5, pv b2), (6, pv b4), (19, .agg #[.int .i64 ((E.getD e.toNat (0, 0)).1), .int .i64 ((E.getD e.toNat (0, 0)).2)]), (24, .agg #[.int .i64 ((E.getD f.toNat (0, 0)).1), .int .i64 ((E.getD f.toNat (0, 0)).2)])] hA H fun b103 a w104 H hA hG hge_b103 => ?_
     replace hge_b103 := Nat.le_trans hD.1 hge_b103
     replace hD := hD.below hG
     refine ⟨fun _ => hD, ?_⟩
     exact (hM _ _ _ _).1 (hM20 _ _ _ b103 hge_b103 (env_sub _ hA) H hD)
   skip
   refine q_alloc 11 12 99 [.int .i64 0, .int .i64 0] [(2, iv v), (3, iv e), (4, iv f), (5, pv b2), (6, pv b4), (19, .agg #[.int .i64 ((E.getD e.toNat (0, 0)).1), .int .i64 ((E.getD e.toNat (0, 0)).2)]), (24, .agg #[.int .i64 ((E.getD f.toNat (0, 0)).1), .int .i64 ((E.getD f.toNat (0, 0)).2)])] hA H fun b105 a w106 H hA hG hge_b105 => ?_
   replace hge_b105 := Nat.le_trans hD.1 hge_b105
   replace hD := hD.below hG
   refine ⟨fun _ => hD, ?_⟩
   exact (hM _ _ _ _).1 (hM21 _ _ _ b105 hge_b105 (env_sub _ hA) H hD)
 exact hM22 _ _ _ (env_sub _ hA) H hD
theorem tog_any (n : Int) (ve : Value) (E : List (Int × Int)) (vv vl : Value) (V L : List Int) (e f : Int) (w : World) (hn : -9223372036854775808 ≤ n ∧ n ≤ 9223372036854775807) (hE : Rd (· < w.heap.size) w ve E) (hV : Rd (· < w.heap.size) w vv V) (hL : Rd (· < w.heap.size) w vl L) (hpt : partE n E V L = 0) (he : e ∈ L) (hf : f ∈ L) :
 Calls Try.prog 84 [.agg #[.int .i64 n, ve], .agg #[vv, vl], .int .i64 e, .int .i64 f].toArray w (Ans (.bool (togB E V L e f)) w) := by
 obtain ⟨hp1, hp2, hp3, hp4⟩ := partE_0 hpt
 have hr9 := rightE_0 hp1
 have hv9 := rises_len hp2 (by omega)
 refine enter Try.f84 27 Try.func84 fun a hA => ?_
 replace hA := env_sub [(0, .agg #[.int .i64 n, ve]), (1, .agg #[vv, vl]), (2, iv e), (3, iv f)] hA
 have H := Fr.start (org w)
 refine go_seq fun K1 hK1 => ?_
 refine region_list ?_
 refine list_at 0 ?_; refine q_box 0 4 24 (.tmp 0) (.agg #[.int .i64 n, ve]) [.int .i64 n, ve] [(1, .agg #[vv, vl]), (2, iv e), (3, iv f)] hA H fun b2 a w3 H hA hG hge_b2 => ?_
 clear hge_b2
 refine list_at 1 ?_; refine q_box 1 5 29 (.tmp 1) (.agg #[vv, vl]) [vv, vl] [(2, iv e), (3, iv f), (4, pv b2)] hA H fun b4 a w5 H hA hG hge_b4 => ?_
 clear hge_b4
 refine q_list 2 1 [] [(2, iv e), (3, iv f), (4, pv b2), (5, pv b4)] (TT ∧ True) hA H ⟨tv, tv⟩ fun a w6 hA H hG => ?_
 refine list_end ?_
 refine hK1 _ _ ?_
 refine go_seq fun K7 hK7 => ?_
 refine go_seq fun K8 hK8 => ?_
 refine q_reg [] [(2, iv e), (3, iv f), (4, pv b2), (5, pv b4), (9, iv 0)] (TT ∧ True) hA H ⟨tv, tv⟩ fun a w9 hA H hG => ?_
 refine hK8 _ _ ?_
 refine go_block 0 ?_
 refine go_loop_ (Int) (fun x_ a W => (fun (i : Int) => EnvOk 27 a (keepEnv [(2, iv e), (3, iv f), (4, pv b2), (5, pv b4), (9, iv i)]) ∧ (∃ S, Fr (org w) W S [.box b4 29 [vv, vl], .box b2 24 [.int .i64 n, ve]]) ∧ 0 ≤ i ∧ ∀ j : Nat, (j : Int) < i → apartB E L (V.getD j 0) e f = false) x_) (fun x_ => (fun (i : Int) => ((V.length : Int) - i).toNat) x_) (0) ?_ (fun i a w11 hI => ?_)
 · (try dsimp only); exact ⟨env_sub _ hA, ⟨_, H⟩, by omega, fun j hj => by omega⟩
 obtain ⟨hA, ⟨S, H⟩, h0, hok⟩ := hI
 try dsimp only at h0 hok
 refine go_seq fun K12 hK12 => ?_
 refine go_seq fun K13 hK13 => ?_
 refine q_reg [(12, vv), (13, iv (V.length : Int))] [(2, iv e), (3, iv f), (4, pv b2), (5, pv b4), (9, iv i), (14, .bool (decide (i < (V.length : Int))))] (TT ∧ (0 < Try.prog.cellsOf 27) ∧ (CellOk (On w11) b4 (0 + 0) (vv)) ∧ (LenOk vv (V.length : Int)) ∧ TT ∧ True) hA H ⟨tv, by decide +kernel, by exact box_cell H 0 rfl 0, by exact len_ok (H.arg hV), tv, tv⟩ fun a w14 hA H hG => ?_
 refine hK13 _ _ ?_
 refine go_cond hA (.tmp 14) (decide (i < (V.length : Int))) (fun hb15 => ?_) (fun hb15 => ?_)
 · have hhb15 := of_decide_eq_true hb15
   refine go_skip ?_
   refine hK12 _ _ ?_
   refine go_seq fun K16 hK16 => ?_
   refine go_block 1 ?_
   refine go_seq fun K17 hK17 => ?_
   refine q_draw [(17, .agg #[.int .i64 n, ve]), (18, .agg #[vv, vl]), (20, vv), (23, iv (V.getD i.toNat 0)), (26, .bool (apartB E L (V.getD i.toNat 0) e f))] [(2, iv e), (3, iv f), (4, pv b2), (5, pv b4), (9, iv i), (26, .bool (apartB E L (V.getD i.toNat 0) e f))] (((Try.prog.info? 24).isSome = true ∧ RowOk (On w14) b2 (0) (Try.prog.cellsOf 24) #[.int .i64 n, ve]) ∧ ((Try.prog.info? 29).isSome = true ∧ RowOk (On w14) b4 (0) (Try.prog.cellsOf 29) #[vv, vl]) ∧ (0 < Try.prog.cellsOf 27) ∧ (CellOk (On w14) b4 (0 + 0) (vv)) ∧ TT ∧ ((Try.prog.info? 3).isSome = true ∧ IdxOk vv i) ∧ (CellOk (On w14) (hdB vv) (hdO vv + i.toNat * 1) (.int .i64 (V.getD i.toNat 0))) ∧ TT ∧ TT ∧ (Callable Try.prog 106 ∧ CallOk Try.prog (On w14) 106 [.agg #[.int .i64 n, ve], .agg #[vv, vl], .int .i64 (V.getD i.toNat 0), .int .i64 e, .int .i64 f].toArray (.bool (apartB E L (V.getD i.toNat 0) e f))) ∧ True) hA H ⟨⟨by kernel_rfl, by exact box_row H 1 rfl 0 2⟩, ⟨by kernel_rfl, by exact box_row H 0 rfl 0 2⟩, by decide +kernel, by exact box_cell H 0 rfl 0, tv, ⟨by kernel_rfl, by exact idx_ok (H.arg hV) (by omega) (by omega)⟩, by exact cell_flat (i := i) (H.arg hV) (by omega) (by omega) 0 0, tv, tv, ⟨callable_of, callOk_of fun w hw => by exact apart_any n ve E vv vl V L (V.getD i.toNat 0) e f w (by omega) (((H.on hw).arg hE)) (((H.on hw).arg hV)) (((H.on hw).arg hL)) hpt he hf⟩, tv⟩ fun a w18 hA H hG => ?_
   refine hK17 _ _ ?_
   refine go_cond hA (.tmp 26) (apartB E L (V.getD i.toNat 0) e f) (fun hb19 => ?_) (fun hb19 => ?_)
   · have hhb19 := hb19
     refine go_seq fun K20 hK20 => ?_
     refine q_reg [] [(8, .bool false)] (TT ∧ True) hA H ⟨tv, tv⟩ fun a w21 hA H hG => ?_
     refine hK20 _ _ ?_
     refine go_ret_ ?_
     refine ret_one 8 (.bool false) hA ?_
     exact ans_b' (by unfold togB; exact (decide_eq_false (fun q => by have z := q i.toNat (by omega); rw [z] at hhb19; cases hhb19)).symm) H.below
   have hhb19 := hb19
   refine go_skip ?_
   refine hK16 _ _ ?_
   refine q_reg [] [(2, iv e), (3, iv f), (4, pv b2), (5, pv b4), (9, iv (i + 1))] (TT ∧ (InR .i64 (i + 1)) ∧ TT ∧ True) hA H ⟨tv, ⟨by omega, by omega⟩, tv, tv⟩ fun a w22 hA H hG => ?_
   refine ⟨(i + 1), ⟨env_sub _ hA, ⟨_, H⟩, ?_⟩, ?_⟩
   · (try dsimp only); exact ⟨by omega, fun j hj => if q : (j : Int) = i then (by rw [show j = i.toNat by omega]; exact hhb19) else hok j (by omega)⟩
   (try dsimp only); omega
 have hhb15 := of_decide_eq_false hb15
 refine go_exit 0 ?_
 refine hK7 _ _ ?_
 refine go_seq fun K23 hK23 => ?_
 refine q_reg [] [(8, .bool true)] (TT ∧ True) hA H ⟨tv, tv⟩ fun a w24 hA H hG => ?_
 refine hK23 _ _ ?_
 refine go_ret_ ?_
 refine ret_one 8 (.bool true) hA ?_
 exact ans_b' (by unfold togB; exact (decide_eq_true (fun j hj => hok j (by omega))).symm) H.below
theorem rblocks_any (n : Int) (ve : Value) (E : List (Int × Int)) (vv vl : Value) (V L : List Int) (o : Orig) (hn : -9223372036854775808 ≤ n ∧ n ≤ 9223372036854775807) (hE : Rd (· < o.w.heap.size) o.w ve E) (hV : Rd (· < o.w.heap.size) o.w vv V) (hL : Rd (· < o.w.heap.size) o.w vl L) (hpt : partE n E V L = 0) :
 Calls Try.prog 51 [.agg #[.int .i64 n, ve], .agg #[vv, vl]].toArray o.w (Giv o (fun S v w' => Rd S w' v (blocksL n E V L))) := by
 obtain ⟨hp1, hp2, hp3, hp4⟩ := partE_0 hpt
 have hr9 := rightE_0 hp1
 have hl9 := rises_len hp3 (by omega)
 refine enter Try.f51 60 Try.func51 fun a hA => ?_
 replace hA := env_sub [(0, .agg #[.int .i64 n, ve]), (1, .agg #[vv, vl])] hA
 have H := Fr.start o
 refine go_seq fun K1 hK1 => ?_
 refine region_list ?_
 refine list_at 0 ?_; refine q_box 0 2 24 (.tmp 0) (.agg #[.int .i64 n, ve]) [.int .i64 n, ve] [(1, .agg #[vv, vl])] hA H fun b2 a w3 H hA hG hge_b2 => ?_
 clear hge_b2
 refine list_at 1 ?_; refine q_box 1 3 29 (.tmp 1) (.agg #[vv, vl]) [vv, vl] [(2, pv b2)] hA H fun b4 a w5 H hA hG hge_b4 => ?_
 clear hge_b4
 refine q_list 2 1 [] [(2, pv b2), (3, pv b4)] (TT ∧ True) hA H ⟨tv, tv⟩ fun a w6 hA H hG => ?_
 refine list_end ?_
 refine hK1 _ _ ?_
 refine go_seq fun K7 hK7 => ?_
 refine q_reg [] [(2, pv b2), (3, pv b4), (5, (.slice none 0 0))] (TT ∧ True) hA H ⟨tv, tv⟩ fun a w8 hA H hG => ?_
 refine hK7 _ _ ?_
 refine go_seq fun K9 hK9 => ?_
 refine go_seq fun K10 hK10 => ?_
 refine q_reg [] [(2, pv b2), (3, pv b4), (5, (.slice none 0 0)), (6, iv 0)] (TT ∧ True) hA H ⟨tv, tv⟩ fun a w11 hA H hG => ?_
 refine hK10 _ _ ?_
 refine go_block 0 ?_
 replace H := H.newRow (α := List Int × List Int) 29
 refine go_loop_ (Int × Value × List (List Int × List Int)) (fun x_ a W => (fun (i : Int) (vr : Value) (l : List (List Int × List Int)) => EnvOk 60 a (keepEnv [(2, pv b2), (3, pv b4), (5, vr), (6, iv i)]) ∧ (∃ S, Fr o W S [.row 29 vr l, .box b4 29 [vv, vl], .box b2 24 [.int .i64 n, ve]]) ∧ 0 ≤ i ∧ i ≤ (L.length : Int) ∧ (l.length : Int) ≤ i ∧ l = repsL n E V L (L.take i.toNat)) x_.1 x_.2.1 x_.2.2) (fun x_ => (fun (i : Int) (vr : Value) (l : List (List Int × List Int)) => ((L.length : Int) - i).toNat) x_.1 x_.2.1 x_.2.2) (0, .slice none 0 0, []) ?_ (fun x_ a w13 hI => ?_)
 · (try dsimp only); exact ⟨env_sub _ hA, ⟨_, H⟩, by omega, by omega, by simp, by simp [repsL]⟩
 obtain ⟨i, vr, l⟩ := x_
 obtain ⟨hA, ⟨S, H⟩, h0, h0b, h1, hi⟩ := hI
 try dsimp only at h0 h0b h1 hi
 replace H : Fr _ _ _ [.row 29 vr l, .box b4 29 [vv, vl], .box b2 24 [.int .i64 n, ve]] := H
 refine go_seq fun K14 hK14 => ?_
 refine go_seq fun K15 hK15 => ?_
 refine q_reg [(11, vl), (12, iv (L.length : Int))] [(2, pv b2), (3, pv b4), (5, vr), (6, iv i), (13, .bool (decide (i < (L.length : Int))))] (TT ∧ (0 < Try.prog.cellsOf 27) ∧ (CellOk (On w13) b4 (0 + 1) (vl)) ∧ (LenOk vl (L.length : Int)) ∧ TT ∧ True) hA H ⟨tv, by decide +kernel, by exact box_cell H 1 rfl 1, by exact len_ok (H.arg hL), tv, tv⟩ fun a w16 hA H hG => ?_
 refine hK15 _ _ ?_
 refine go_cond hA (.tmp 13) (decide (i < (L.length : Int))) (fun hb17 => ?_) (fun hb17 => ?_)
 · have hhb17 := of_decide_eq_true hb17
   refine go_skip ?_
   refine hK14 _ _ ?_
   refine go_seq fun K18 hK18 => ?_
   refine go_block 1 ?_
   refine go_seq fun K19 hK19 => ?_
   have he : (L.getD i.toNat 0) ∈ L := mem_getD.2 ⟨i.toNat, by omega, rfl⟩
   refine q_reg [] [(2, pv b2), (3, pv b4), (5, vr), (6, iv i), (7, (.slice none 0 0))] (TT ∧ True) hA H ⟨tv, tv⟩ fun a w20 hA H hG => ?_
   refine hK19 _ _ ?_
   refine go_seq fun K21 hK21 => ?_
   refine go_seq fun K22 hK22 => ?_
   refine q_reg [] [(2, pv b2), (3, pv b4), (5, vr), (6, iv i), (7, (.slice none 0 0)), (8, iv 0)] (TT ∧ True) hA H ⟨tv, tv⟩ fun a w23 hA H hG => ?_
   refine hK22 _ _ ?_
   refine go_block 2 ?_
   replace H := H.newRow (α := Int) 3
   refine go_loop_ (Int × Value × List Int) (fun x_ a W => (fun (k : Int) (vc : Value) (c : List Int) => EnvOk 60 a (keepEnv [(2, pv b2), (3, pv b4), (5, vr), (6, iv i), (7, vc), (8, iv k)]) ∧ (∃ S, Fr o W S [.row 3 vc c, .row 29 vr l, .box b4 29 [vv, vl], .box b2 24 [.int .i64 n, ve]]) ∧ 0 ≤ k ∧ k ≤ (L.length : Int) ∧ (c.length : Int) ≤ k ∧ c = (L.take k.toNat).filter (togB E V L (L.getD i.toNat 0))) x_.1 x_.2.1 x_.2.2) (fun x_ => (fun (k : Int) (vc : Value) (c : List Int) => ((L.length : Int) - k).toNat) x_.1 x_.2.1 x_.2.2) (0, .slice none 0 0, []) ?_ (fun x_ a w25 hI => ?_)
   · (try dsimp only); exact ⟨env_sub _ hA, ⟨_, H⟩, by omega, by omega, by simp, by simp⟩
   obtain ⟨k, vc, c⟩ := x_
   obtain ⟨hA, ⟨S, H⟩, k0, k0b, k1, hc⟩ := hI
   try dsimp only at k0 k0b k1 hc
   replace H : Fr _ _ _ [.row 3 vc c, .row 29 vr l, .box b4 29 [vv, vl], .box b2 24 [.int .i64 n, ve]] := H
   refine go_seq fun K26 hK26 => ?_
   refine go_seq fun K27 hK27 => ?_
   refine q_reg [(18, vl), (19, iv (L.length : Int))] [(2, pv b2), (3, pv b4), (5, vr), (6, iv i), (7, vc), (8, iv k), (20, .bool (decide (k < (L.length : Int))))] (TT ∧ (0 < Try.prog.cellsOf 27) ∧ (CellOk (On w25) b4 (0 + 1) (vl)) ∧ (LenOk vl (L.length : Int)) ∧ TT ∧ True) hA H ⟨tv, by decide +kernel, by exact box_cell H 2 rfl 1, by exact len_ok (H.arg hL), tv, tv⟩ fun a w28 hA H hG => ?_
   refine hK27 _ _ ?_
   refine go_cond hA (.tmp 20) (decide (k < (L.length : Int))) (fun hb29 => ?_) (fun hb29 => ?_)
   · have hhb29 := of_decide_eq_true hb29
     refine go_skip ?_
     refine hK26 _ _ ?_
     refine go_seq fun K30 hK30 => ?_
     refine go_block 3 ?_
     refine go_seq fun K31 hK31 => ?_
     have hf : (L.getD k.toNat 0) ∈ L := mem_getD.2 ⟨k.toNat, by omega, rfl⟩
     refine q_draw [(23, .agg #[.int .i64 n, ve]), (24, .agg #[vv, vl]), (26, vl), (29, iv (L.getD i.toNat 0)), (31, vl), (34, iv (L.getD k.toNat 0)), (35, .bool (togB E V L (L.getD i.toNat 0) (L.getD k.toNat 0)))] [(2, pv b2), (3, pv b4), (5, vr), (6, iv i), (7, vc), (8, iv k), (35, .bool (togB E V L (L.getD i.toNat 0) (L.getD k.toNat 0)))] (((Try.prog.info? 24).isSome = true ∧ RowOk (On w28) b2 (0) (Try.prog.cellsOf 24) #[.int .i64 n, ve]) ∧ ((Try.prog.info? 29).isSome = true ∧ RowOk (On w28) b4 (0) (Try.prog.cellsOf 29) #[vv, vl]) ∧ (0 < Try.prog.cellsOf 27) ∧ (CellOk (On w28) b4 (0 + 1) (vl)) ∧ TT ∧ ((Try.prog.info? 3).isSome = true ∧ IdxOk vl i) ∧ (CellOk (On w28) (hdB vl) (hdO vl + i.toNat * 1) (.int .i64 (L.getD i.toNat 0))) ∧ (0 < Try.prog.cellsOf 27) ∧ (CellOk (On w28) b4 (0 + 1) (vl)) ∧ TT ∧ ((Try.prog.info? 3).isSome = true ∧ IdxOk vl k) ∧ (CellOk (On w28) (hdB vl) (hdO vl + k.toNat * 1) (.int .i64 (L.getD k.toNat 0))) ∧ (Callable Try.prog 84 ∧ CallOk Try.prog (On w28) 84 [.agg #[.int .i64 n, ve], .agg #[vv, vl], .int .i64 (L.getD i.toNat 0), .int .i64 (L.getD k.toNat 0)].toArray (.bool (togB E V L (L.getD i.toNat 0) (L.getD k.toNat 0)))) ∧ True) hA H ⟨⟨by kernel_rfl, by exact box_row H 3 rfl 0 2⟩, ⟨by kernel_rfl, by exact box_row H 2 rfl 0 2⟩, by decide +kernel, by exact box_cell H 2 rfl 1, tv, ⟨by kernel_rfl, by exact idx_ok (H.arg hL) (by omega) (by omega)⟩, by exact cell_flat (i := i) (H.arg hL) (by omega) (by omega) 0 0, by decide +kernel, by exact box_cell H 2 rfl 1, tv, ⟨by kernel_rfl, by exact idx_ok (H.arg hL) (by omega) (by omega)⟩, by exact cell_flat (i := k) (H.arg hL) (by omega) (by omega) 0 0, ⟨callable_of, callOk_of fun w hw => by exact tog_any n ve E vv vl V L (L.getD i.toNat 0) (L.getD k.toNat 0) w (by omega) (((H.on hw).arg hE)) (((H.on hw).arg hV)) (((H.on hw).arg hL)) hpt he hf⟩, tv⟩ fun a w32 hA H hG => ?_
     refine hK31 _ _ ?_
     refine go_cond hA (.tmp 35) (togB E V L (L.getD i.toNat 0) (L.getD k.toNat 0)) (fun hb33 => ?_) (fun hb33 => ?_)
     · have hhb33 := hb33
       refine region_list ?_
       refine q_list 0 6 [(38, vl), (41, iv (L.getD k.toNat 0))] [(2, pv b2), (3, pv b4), (5, vr), (6, iv i), (8, iv k), (36, vc), (41, iv (L.getD k.toNat 0))] (TT ∧ (0 < Try.prog.cellsOf 27) ∧ (CellOk (On w32) b4 (0 + 1) (vl)) ∧ TT ∧ ((Try.prog.info? 3).isSome = true ∧ IdxOk vl k) ∧ (CellOk (On w32) (hdB vl) (hdO vl + k.toNat * 1) (.int .i64 (L.getD k.toNat 0))) ∧ True) hA H ⟨tv, by decide +kernel, by exact box_cell H 2 rfl 1, tv, ⟨by kernel_rfl, by exact idx_ok (H.arg hL) (by omega) (by omega)⟩, by exact cell_flat (i := k) (H.arg hL) (by omega) (by omega) 0 0, tv⟩ fun a w34 hA H hG => ?_
       refine list_at 6 ?_; refine q_lit 6 42 27 1 #[(0, .tmp 41)] 3 [(0, iv (L.getD k.toNat 0))] [.int .i64 (L.getD k.toNat 0)] [(2, pv b2), (3, pv b4), (5, vr), (6, iv i), (8, iv k), (36, vc)] hA H fun b35 a w36 H hA hG hge_b35 => ?_
       clear hge_b35
       refine list_at 7 ?_; refine q_push 7 43 (.tmp 36) (.tmp 42) 1 0 b35 1 1 vc c [(L.getD k.toNat 0)] [.int .i64 (L.getD k.toNat 0)] [(2, pv b2), (3, pv b4), (5, vr), (6, iv i), (8, iv k)] hA H Try.E27 rfl rfl (by exact (RowRd.single (α := Int) rfl)) rfl (by simp only [List.length_cons, List.length_nil, List.length_append]; omega) (by decide) fun v37 a w38 H hA hG => ?_
       replace H : Fr _ _ _ [.row 3 v37 (c ++ [(L.getD k.toNat 0)]), .row 29 vr l, .box b4 29 [vv, vl], .box b2 24 [.int .i64 n, ve]] := H.drop 0
       refine q_list 8 1 [] [(2, pv b2), (3, pv b4), (5, vr), (6, iv i), (7, v37), (8, iv k)] (TT ∧ True) hA H ⟨tv, tv⟩ fun a w39 hA H hG => ?_
       refine list_end ?_
       refine hK30 _ _ ?_
       refine q_reg [] [(2, pv b2), (3, pv b4), (5, vr), (6, iv i), (7, v37), (8, iv (k + 1))] (TT ∧ (InR .i64 (k + 1)) ∧ TT ∧ True) hA H ⟨tv, ⟨by omega, by omega⟩, tv, tv⟩ fun a w40 hA H hG => ?_
       refine ⟨(k + 1, v37, c ++ [(L.getD k.toNat 0)]), ⟨env_sub _ hA, ⟨_, H⟩, ?_⟩, ?_⟩
       · (try dsimp only); exact ⟨by omega, by omega, by (try simp only [List.length_append, List.length_cons, List.length_nil]); omega, by rw [hc, take_snoc k0 (by omega), List.filter_append, List.filter_cons, hb33]; rfl⟩
       (try dsimp only); omega
     have hhb33 := hb33
     refine go_skip ?_
     refine hK30 _ _ ?_
     refine q_reg [] [(2, pv b2), (3, pv b4), (5, vr), (6, iv i), (7, vc), (8, iv (k + 1))] (TT ∧ (InR .i64 (k + 1)) ∧ TT ∧ True) hA H ⟨tv, ⟨by omega, by omega⟩, tv, tv⟩ fun a w41 hA H hG => ?_
     refine ⟨(k + 1, vc, c), ⟨env_sub _ hA, ⟨_, H⟩, ?_⟩, ?_⟩
     · (try dsimp only); exact ⟨by omega, by omega, by (try simp only [List.length_append, List.length_cons, List.length_nil]); omega, by rw [hc, take_snoc k0 (by omega), List.filter_append, List.filter_cons, hb33]; simp⟩
     (try dsimp only); omega
   have hhb29 := of_decide_eq_false hb29
   refine go_exit 2 ?_
   refine hK21 _ _ ?_
   refine go_seq fun K42 hK42 => ?_
   have hcl : c = classL E V L (L.getD i.toNat 0) := by rw [hc, List.take_of_length_le (by omega)]; rfl
   have hcp : 0 < c.length := by rw [hcl]; exact List.length_pos_of_mem (class_self he)
   refine q_draw [(46, iv (c.getD (0 : Int).toNat 0)), (48, vl), (51, iv (L.getD i.toNat 0))] [(2, pv b2), (3, pv b4), (5, vr), (6, iv i), (7, vc), (52, .bool (decide ((c.getD (0 : Int).toNat 0) = (L.getD i.toNat 0))))] (TT ∧ ((Try.prog.info? 3).isSome = true ∧ IdxOk vc 0) ∧ (CellOk (On w28) (hdB vc) (hdO vc + (0 : Int).toNat * 1) (.int .i64 (c.getD (0 : Int).toNat 0))) ∧ (0 < Try.prog.cellsOf 27) ∧ (CellOk (On w28) b4 (0 + 1) (vl)) ∧ TT ∧ ((Try.prog.info? 3).isSome = true ∧ IdxOk vl i) ∧ (CellOk (On w28) (hdB vl) (hdO vl + i.toNat * 1) (.int .i64 (L.getD i.toNat 0))) ∧ TT ∧ True) hA H ⟨tv, ⟨by kernel_rfl, by exact idx_ok (H.out 0 rfl) (by omega) (by omega)⟩, by exact cell_flat (i := (0 : Int)) (H.out 0 rfl) (by omega) (by omega) 0 0, by decide +kernel, by exact box_cell H 2 rfl 1, tv, ⟨by kernel_rfl, by exact idx_ok (H.arg hL) (by omega) (by omega)⟩, by exact cell_flat (i := i) (H.arg hL) (by omega) (by omega) 0 0, tv, tv⟩ fun a w43 hA H hG => ?_
   refine hK42 _ _ ?_
   refine go_cond hA (.tmp 52) (decide ((c.getD (0 : Int).toNat 0) = (L.getD i.toNat 0))) (fun hb44 => ?_) (fun hb44 => ?_)
   · have hhb44 := of_decide_eq_true hb44
     have hrs : risesP c (E.length : Int) := by rw [hcl]; exact rises_sub ((rises_iff.1 hp3).1.sublist List.filter_sublist) hp3 fun x hx => (class_mem.1 hx).1
     refine region_list ?_
     refine q_list 0 3 [(54, .agg #[.int .i64 n, ve])] [(2, pv b2), (3, pv b4), (6, iv i), (53, vr), (54, .agg #[.int .i64 n, ve]), (55, vc)] (TT ∧ ((Try.prog.info? 24).isSome = true ∧ RowOk (On w43) b2 (0) (Try.prog.cellsOf 24) #[.int .i64 n, ve]) ∧ TT ∧ True) hA H ⟨tv, ⟨by kernel_rfl, by exact box_row H 3 rfl 0 2⟩, tv, tv⟩ fun a w45 hA H hG => ?_
     refine list_at 3 ?_; refine q_call 3 56 30 #[.tmp 54, .tmp 55] #[24, 27] [.agg #[.int .i64 n, ve], vc] (fun S v_ w' => Rd S w' v_ ((touchL E c n, c))) [(2, pv b2), (3, pv b4), (6, iv i), (53, vr)] hA H (by exact rspan_any n ve E vc c H.at (by omega) ((H.arg hE)) ((H.out 0 rfl)) hrs (by omega) (by omega)) fun v46 a w47 S hR48 H hA hG => ?_
     obtain ⟨v46a, v46b, rfl, hR48a, hR48b⟩ := two_rd hR48
     replace H := H.ro hR48a; replace H := H.ro hR48b
     replace H : Fr _ _ _ [.ro v46b c, .ro v46a (touchL E c n), .row 3 vc c, .row 29 vr l, .box b4 29 [vv, vl], .box b2 24 [.int .i64 n, ve]] := H
     refine list_at 4 ?_; refine q_lit 4 57 56 1 #[(0, .tmp 56)] 29 [(0, .agg #[v46a, v46b])] [v46a, v46b] [(2, pv b2), (3, pv b4), (6, iv i), (53, vr)] hA H fun b51 a w52 H hA hG hge_b51 => ?_
     clear hge_b51
     refine list_at 5 ?_; refine q_push 5 58 (.tmp 53) (.tmp 57) 4 0 b51 1 1 vr l [(touchL E c n, c)] [v46a, v46b] [(2, pv b2), (3, pv b4), (6, iv i)] hA H Try.E56 rfl rfl (by exact (RowRd.single (α := (List (Int)) × List (Int)) ⟨[_], _, rfl, ⟨_, rfl, rd_slice (H.getS 2 rfl)⟩, ⟨_, rfl, rd_slice (H.getS 1 rfl)⟩⟩)) rfl (by simp only [List.length_cons, List.length_nil, List.length_append]; omega) (by decide) fun v53 a w54 H hA hG => ?_
     replace H : Fr _ _ _ [.ro v46b c, .ro v46a (touchL E c n), .row 3 vc c, .row 29 v53 (l ++ [(touchL E c n, c)]), .box b4 29 [vv, vl], .box b2 24 [.int .i64 n, ve]] := H.drop 0
     refine q_list 6 1 [] [(2, pv b2), (3, pv b4), (5, v53), (6, iv i)] (TT ∧ True) hA H ⟨tv, tv⟩ fun a w55 hA H hG => ?_
     refine list_end ?_
     refine hK18 _ _ ?_
     refine q_reg [] [(2, pv b2), (3, pv b4), (5, v53), (6, iv (i + 1))] (TT ∧ (InR .i64 (i + 1)) ∧ TT ∧ True) hA H ⟨tv, ⟨by omega, by omega⟩, tv, tv⟩ fun a w56 hA H hG => ?_
     replace H := H.drop 2
     replace H := H.drop 1
     replace H := H.drop 0
     refine ⟨(i + 1, v53, l ++ [(touchL E c n, c)]), ⟨env_sub _ hA, ⟨_, H⟩, ?_⟩, ?_⟩
     · (try dsimp only); exact ⟨by omega, by omega, by (try simp only [List.length_append, List.length_cons, List.length_nil]); omega, by rw [hi, repsL_snoc h0 (by omega)]; rw [if_pos (by rw [← hcl]; exact hhb44), hcl]⟩
     (try dsimp only); omega
   have hhb44 := of_decide_eq_false hb44
   refine go_skip ?_
   refine hK18 _ _ ?_
   refine q_reg [] [(2, pv b2), (3, pv b4), (5, vr), (6, iv (i + 1))] (TT ∧ (InR .i64 (i + 1)) ∧ TT ∧ True) hA H ⟨tv, ⟨by omega, by omega⟩, tv, tv⟩ fun a w57 hA H hG => ?_
   replace H := H.drop 0
   refine ⟨(i + 1, vr, l), ⟨env_sub _ hA, ⟨_, H⟩, ?_⟩, ?_⟩
   · (try dsimp only); exact ⟨by omega, by omega, by (try simp only [List.length_append, List.length_cons, List.length_nil]); omega, by rw [hi, repsL_snoc h0 (by omega)]; rw [if_neg (by rw [← hcl]; exact hhb44), List.append_nil]⟩
   (try dsimp only); omega
 have hhb17 := of_decide_eq_false hb17
 refine go_exit 0 ?_
 refine hK9 _ _ ?_
 refine go_seq fun K58 hK58 => ?_
 refine q_reg [] [(4, vr)] (TT ∧ TT ∧ True) hA H ⟨tv, tv, tv⟩ fun a w59 hA H hG => ?_
 refine hK58 _ _ ?_
 refine go_ret_ ?_
 refine ret_one 4 vr hA ?_
 have ho := (H.give 0 rfl)
 rw [List.take_of_length_le (by omega)] at hi; rw [hi] at ho; exact ⟨_, rfl, ho, H.below⟩
end Go.Proofs.Ytahonnlgkmimlaa
