/-
 Texts joined by program: WalkQ3, PairI, WalkB10, WalkB11, WalkB12, WalkQ4, WalkQ5, WalkQ6, WalkQ7, WalkQ8, PairJ.
-/
import Derived.Test.YtahonnlgkmimlaaProg
import Derived.Test.YtahonnlgkmimlaaJPairKinds6
set_option linter.unusedSimpArgs false
set_option linter.unusedVariables false
set_option maxRecDepth 100000
set_option maxHeartbeats 8000000
namespace Go.Proofs.Ytahonnlgkmimlaa
open Go.RowKit
theorem rclasses_any (vl : Value) (l : List (Int × Int × Int)) (x y : Int) (o : Orig) (hL : Rd (· < o.w.heap.size) o.w vl l) (hs : l.length ≤ 100000) (hx : -9223372036854775808 ≤ x ∧ x ≤ 9223372036854775807) (hy : -9223372036854775808 ≤ y ∧ y ≤ 9223372036854775807) :
 Calls Try.prog 63 [vl, .int .i64 x, .int .i64 y].toArray o.w (Giv o (fun S v w' => Rd S w' v (classesL l x y))) := by
 refine enter Try.f63 83 Try.func63 fun a hA => ?_
 replace hA := env_sub [(0, vl), (1, iv x), (2, iv y)] hA
 have H := Fr.start o
 refine go_seq fun K1 hK1 => ?_
 refine q_reg [] [(0, vl), (1, iv x), (2, iv y)] (TT ∧ True) hA H ⟨tv, tv⟩ fun a w2 hA H hG => ?_
 refine hK1 _ _ ?_
 refine go_seq fun K3 hK3 => ?_
 refine q_reg [] [(0, vl), (1, iv x), (2, iv y), (7, (.slice none 0 0))] (TT ∧ True) hA H ⟨tv, tv⟩ fun a w4 hA H hG => ?_
 refine hK3 _ _ ?_
 refine go_seq fun K5 hK5 => ?_
 refine q_reg [] [(0, vl), (1, iv x), (2, iv y), (7, (.slice none 0 0)), (8, (.slice none 0 0))] (TT ∧ True) hA H ⟨tv, tv⟩ fun a w6 hA H hG => ?_
 refine hK5 _ _ ?_
 refine go_seq fun K7 hK7 => ?_
 refine go_seq fun K8 hK8 => ?_
 refine q_reg [] [(0, vl), (1, iv x), (2, iv y), (7, (.slice none 0 0)), (8, (.slice none 0 0)), (9, iv 0)] (TT ∧ True) hA H ⟨tv, tv⟩ fun a w9 hA H hG => ?_
 refine hK8 _ _ ?_
 refine go_block 0 ?_
 replace H := H.newRow (α := Int) 3
 replace H := H.newRow (α := List Int) 27
 refine go_loop_ (Int × Value × List (List Int) × Value × List Int) (fun x_ a W => (fun (i : Int) (vo : Value) (out : List (List Int)) (vd : Value) (d : List Int) => EnvOk 83 a (keepEnv [(0, vl), (1, iv x), (2, iv y), (7, vo), (8, vd), (9, iv i)]) ∧ (∃ S, Fr o W S [.row 27 vo out, .row 3 vd d]) ∧ 0 ≤ i ∧ i ≤ (l.length : Int) ∧ (out.length : Int) ≤ i ∧ Dn l x y i d out) x_.1 x_.2.1 x_.2.2.1 x_.2.2.2.1 x_.2.2.2.2) (fun x_ => (fun (i : Int) (vo : Value) (out : List (List Int)) (vd : Value) (d : List Int) => ((l.length : Int) - i).toNat) x_.1 x_.2.1 x_.2.2.1 x_.2.2.2.1 x_.2.2.2.2) (0, .slice none 0 0, [], .slice none 0 0, []) ?_ (fun x_ a w11 hI => ?_)
 · (try dsimp only); exact ⟨env_sub _ hA, ⟨_, H⟩, by omega, by omega, by simp, dn_start⟩
 obtain ⟨i, vo, out, vd, d⟩ := x_
 obtain ⟨hA, ⟨S, H⟩, h0, h0b, h1, hd⟩ := hI
 try dsimp only at h0 h0b h1 hd
 replace H : Fr _ _ _ [.row 27 vo out, .row 3 vd d] := H
 have hdl := dn_len hd
 refine go_seq fun K12 hK12 => ?_
 refine go_seq fun K13 hK13 => ?_
 refine q_reg [(17, iv (l.length : Int))] [(0, vl), (1, iv x), (2, iv y), (7, vo), (8, vd), (9, iv i), (18, .bool (decide (i < (l.length : Int))))] (TT ∧ TT ∧ (LenOk vl (l.length : Int)) ∧ TT ∧ True) hA H ⟨tv, tv, by exact len_ok (H.arg hL), tv, tv⟩ fun a w14 hA H hG => ?_
 refine hK13 _ _ ?_
 refine go_cond hA (.tmp 18) (decide (i < (l.length : Int))) (fun hb15 => ?_) (fun hb15 => ?_)
 · have hhb15 := of_decide_eq_true hb15
   refine go_skip ?_
   refine hK12 _ _ ?_
   refine go_seq fun K16 hK16 => ?_
   refine go_block 1 ?_
   refine go_seq fun K17 hK17 => ?_
   refine go_seq fun K18 hK18 => ?_
   refine q_reg [(23, .bool (decide (i ∈ d)))] [(0, vl), (1, iv x), (2, iv y), (7, vo), (8, vd), (9, iv i), (23, .bool (decide (i ∈ d)))] (TT ∧ TT ∧ (Callable Try.prog 24 ∧ CallOk Try.prog (On w14) 24 [vd, .int .i64 i].toArray (.bool (decide (i ∈ d)))) ∧ True) hA H ⟨tv, tv, ⟨callable_of, callOk_of fun w hw => by exact in_any vd d i w (((H.on hw).out 1 rfl))⟩, tv⟩ fun a w19 hA H hG => ?_
   refine hK18 _ _ ?_
   refine go_cond hA (.tmp 23) (decide (i ∈ d)) (fun hb20 => ?_) (fun hb20 => ?_)
   · have hhb20 := of_decide_eq_true hb20
     refine go_exit 1 ?_
     refine hK16 _ _ ?_
     refine q_reg [] [(0, vl), (1, iv x), (2, iv y), (7, vo), (8, vd), (9, iv (i + 1))] (TT ∧ (InR .i64 (i + 1)) ∧ TT ∧ True) hA H ⟨tv, ⟨by omega, by omega⟩, tv, tv⟩ fun a w21 hA H hG => ?_
     replace H := Fr.order [.row 27 vo out, .row 3 vd d] [] H [0, 1] (by show List.Perm _ (List.range 2); decide)
     replace H : Fr _ _ _ [.row 27 vo out, .row 3 vd d] := H
     refine ⟨(i + 1, vo, out, vd, d), ⟨env_sub _ hA, ⟨_, H⟩, ?_⟩, ?_⟩
     · (try dsimp only); exact ⟨by omega, by omega, by (try simp only [List.length_append, List.length_cons, List.length_nil]); omega, dn_skip hd h0 hhb20⟩
     (try dsimp only); omega
   have hhb20 := of_decide_eq_false hb20
   refine go_skip ?_
   refine hK17 _ _ ?_
   refine go_seq fun K22 hK22 => ?_
   refine region_list ?_
   refine q_list 0 1 [] [(0, vl), (1, iv x), (2, iv y), (7, vo), (8, vd), (9, iv i), (24, iv i)] (TT ∧ True) hA H ⟨tv, tv⟩ fun a w23 hA H hG => ?_
   refine list_at 1 ?_; refine q_lit 1 25 27 1 #[(0, .tmp 24)] 3 [(0, iv i)] [.int .i64 i] [(0, vl), (1, iv x), (2, iv y), (7, vo), (8, vd), (9, iv i)] hA H fun b24 a w25 H hA hG hge_b24 => ?_
   clear hge_b24
   refine q_list 2 1 [] [(0, vl), (1, iv x), (2, iv y), (7, vo), (8, vd), (9, iv i), (10, (.slice (some ⟨b24, 0, none⟩) 1 1))] (TT ∧ True) hA H ⟨tv, tv⟩ fun a w26 hA H hG => ?_
   refine list_end ?_
   refine hK22 _ _ ?_
   refine go_seq fun K27 hK27 => ?_
   refine go_seq fun K28 hK28 => ?_
   have hni : ¬ i ∈ d := hhb20
   replace H := H.rowBox 0 rfl (l := [i]) (by exact RowRd.single (α := Int) (a := i) rfl) (n := 1) rfl (by decide)
   replace H : Fr _ _ _ [.row 3 (.slice (some ⟨b24, 0, none⟩) 1 1) [i], .row 27 vo out, .row 3 vd d] := H
   replace H := Fr.order [.row 3 (.slice (some ⟨b24, 0, none⟩) 1 1) [i], .row 27 vo out, .row 3 vd d] [] H [0, 1, 2] (by show List.Perm _ (List.range 3); decide)
   replace H : Fr _ _ _ [.row 3 (.slice (some ⟨b24, 0, none⟩) 1 1) [i], .row 27 vo out, .row 3 vd d] := H
   refine q_reg [] [(0, vl), (1, iv x), (2, iv y), (7, vo), (8, vd), (9, iv i), (10, (.slice (some ⟨b24, 0, none⟩) 1 1)), (11, iv 0)] (TT ∧ True) hA H ⟨tv, tv⟩ fun a w29 hA H hG => ?_
   refine hK28 _ _ ?_
   refine go_block 2 ?_
   refine go_loop_ (Int × Value × List Int) (fun x_ a W => (fun (k : Int) (vc : Value) (c : List Int) => EnvOk 83 a (keepEnv [(0, vl), (1, iv x), (2, iv y), (7, vo), (8, vd), (9, iv i), (10, vc), (11, iv k)]) ∧ (∃ S, Fr o W S [.row 3 vc c, .row 27 vo out, .row 3 vd d]) ∧ Bf l x y i k 0 c) x_.1 x_.2.1 x_.2.2) (fun x_ => (fun (k : Int) (vc : Value) (c : List Int) => ((l.length : Int) + 1 - k).toNat) x_.1 x_.2.1 x_.2.2) (0, (.slice (some ⟨b24, 0, none⟩) 1 1), [i]) ?_ (fun x_ a w31 hI => ?_)
   · (try dsimp only); exact ⟨env_sub _ hA, ⟨_, H⟩, bf_start h0 (by omega)⟩
   obtain ⟨k, vc, c⟩ := x_
   obtain ⟨hA, ⟨S, H⟩, hb⟩ := hI
   try dsimp only at hb
   replace H : Fr _ _ _ [.row 3 vc c, .row 27 vo out, .row 3 vd d] := H
   have hcl := bf_len hb; have hk0 := hb.k0; have hkn := hb.kn
   refine go_seq fun K32 hK32 => ?_
   refine go_seq fun K33 hK33 => ?_
   refine q_reg [(28, iv (c.length : Int))] [(0, vl), (1, iv x), (2, iv y), (7, vo), (8, vd), (9, iv i), (10, vc), (11, iv k), (29, .bool (decide (k < (c.length : Int))))] (TT ∧ TT ∧ (LenOk vc (c.length : Int)) ∧ TT ∧ True) hA H ⟨tv, tv, by exact len_ok (H.out 0 rfl), tv, tv⟩ fun a w34 hA H hG => ?_
   refine hK33 _ _ ?_
   refine go_cond hA (.tmp 29) (decide (k < (c.length : Int))) (fun hb35 => ?_) (fun hb35 => ?_)
   · have hhb35 := of_decide_eq_true hb35
     refine go_skip ?_
     refine hK32 _ _ ?_
     refine go_seq fun K36 hK36 => ?_
     refine go_block 3 ?_
     refine go_seq fun K37 hK37 => ?_
     refine q_reg [] [(0, vl), (1, iv x), (2, iv y), (7, vo), (8, vd), (9, iv i), (10, vc), (11, iv k), (12, iv 0)] (TT ∧ True) hA H ⟨tv, tv⟩ fun a w38 hA H hG => ?_
     refine hK37 _ _ ?_
     refine go_block 4 ?_
     refine go_loop_ (Int × Value × List Int) (fun x_ a W => (fun (j : Int) (vc2 : Value) (c2 : List Int) => EnvOk 83 a (keepEnv [(0, vl), (1, iv x), (2, iv y), (7, vo), (8, vd), (9, iv i), (10, vc2), (11, iv k), (12, iv j)]) ∧ (∃ S, Fr o W S [.row 3 vc2 c2, .row 27 vo out, .row 3 vd d]) ∧ 0 ≤ j ∧ j ≤ (l.length : Int) ∧ c.length ≤ c2.length ∧ Bf l x y i k j c2) x_.1 x_.2.1 x_.2.2) (fun x_ => (fun (j : Int) (vc2 : Value) (c2 : List Int) => ((l.length : Int) - j).toNat) x_.1 x_.2.1 x_.2.2) (0, vc, c) ?_ (fun x_ a w40 hI => ?_)
     · (try dsimp only); exact ⟨env_sub _ hA, ⟨_, H⟩, by omega, by omega, Nat.le_refl _, hb⟩
     obtain ⟨j, vc2, c2⟩ := x_
     obtain ⟨hA, ⟨S, H⟩, j0, j0b, j1, hb⟩ := hI
     try dsimp only at j0 j0b j1 hb
     replace H : Fr _ _ _ [.row 3 vc2 c2, .row 27 vo out, .row 3 vd d] := H
     have hcl2 := bf_len hb
     refine go_seq fun K41 hK41 => ?_
     refine go_seq fun K42 hK42 => ?_
     refine q_reg [(34, iv (l.length : Int))] [(0, vl), (1, iv x), (2, iv y), (7, vo), (8, vd), (9, iv i), (10, vc2), (11, iv k), (12, iv j), (35, .bool (decide (j < (l.length : Int))))] (TT ∧ TT ∧ (LenOk vl (l.length : Int)) ∧ TT ∧ True) hA H ⟨tv, tv, by exact len_ok (H.arg hL), tv, tv⟩ fun a w43 hA H hG => ?_
     refine hK42 _ _ ?_
     refine go_cond hA (.tmp 35) (decide (j < (l.length : Int))) (fun hb44 => ?_) (fun hb44 => ?_)
     · have hhb44 := of_decide_eq_true hb44
       refine go_skip ?_
       refine hK41 _ _ ?_
       refine go_seq fun K45 hK45 => ?_
       refine go_block 5 ?_
       refine go_seq fun K46 hK46 => ?_
       have hck := hb.cn _ (getD_mem (l := c2) (i := k.toNat) (d := 0) (by omega))
       refine q_draw [(40, .bool (decide (j ∈ c2))), (47, iv (c2.getD k.toNat 0)), (49, .agg #[.int .i64 ((l.getD (c2.getD k.toNat 0).toNat (0, (0, 0))).1), .int .i64 (((l.getD (c2.getD k.toNat 0).toNat (0, (0, 0))).2).1), .int .i64 (((l.getD (c2.getD k.toNat 0).toNat (0, (0, 0))).2).2)]), (53, .agg #[.int .i64 ((l.getD j.toNat (0, (0, 0))).1), .int .i64 (((l.getD j.toNat (0, (0, 0))).2).1), .int .i64 (((l.getD j.toNat (0, (0, 0))).2).2)]), (56, .bool (decide (touchK (l.getD (c2.getD k.toNat 0).toNat (0, (0, 0))) (l.getD j.toNat (0, (0, 0))) x y)))] [(0, vl), (1, iv x), (2, iv y), (7, vo), (8, vd), (9, iv i), (10, vc2), (11, iv k), (12, iv j), (57, .bool ((!(decide (j ∈ c2))) && (decide (touchK (l.getD (c2.getD k.toNat 0).toNat (0, (0, 0))) (l.getD j.toNat (0, (0, 0))) x y))))] (TT ∧ TT ∧ (Callable Try.prog 24 ∧ CallOk Try.prog (On w43) 24 [vc2, .int .i64 j].toArray (.bool (decide (j ∈ c2)))) ∧ TT ∧ TT ∧ ((!(decide (j ∈ c2))) = true → True) ∧ ((!(decide (j ∈ c2))) = true → True) ∧ ((!(decide (j ∈ c2))) = true → True) ∧ ((!(decide (j ∈ c2))) = true → (Try.prog.info? 3).isSome = true ∧ IdxOk vc2 k) ∧ ((!(decide (j ∈ c2))) = true → CellOk (On w43) (hdB vc2) (hdO vc2 + k.toNat * 1) (.int .i64 (c2.getD k.toNat 0))) ∧ ((!(decide (j ∈ c2))) = true → (Try.prog.info? 113).isSome = true ∧ IdxOk vl (c2.getD k.toNat 0)) ∧ ((!(decide (j ∈ c2))) = true → (Try.prog.info? 113).isSome = true ∧ RowOk (On w43) (hdB vl) (hdO vl + (c2.getD k.toNat 0).toNat * 3) (Try.prog.cellsOf 113) #[.int .i64 ((l.getD (c2.getD k.toNat 0).toNat (0, (0, 0))).1), .int .i64 (((l.getD (c2.getD k.toNat 0).toNat (0, (0, 0))).2).1), .int .i64 (((l.getD (c2.getD k.toNat 0).toNat (0, (0, 0))).2).2)]) ∧ ((!(decide (j ∈ c2))) = true → True) ∧ ((!(decide (j ∈ c2))) = true → True) ∧ ((!(decide (j ∈ c2))) = true → (Try.prog.info? 113).isSome = true ∧ IdxOk vl j) ∧ ((!(decide (j ∈ c2))) = true → (Try.prog.info? 113).isSome = true ∧ RowOk (On w43) (hdB vl) (hdO vl + j.toNat * 3) (Try.prog.cellsOf 113) #[.int .i64 ((l.getD j.toNat (0, (0, 0))).1), .int .i64 (((l.getD j.toNat (0, (0, 0))).2).1), .int .i64 (((l.getD j.toNat (0, (0, 0))).2).2)]) ∧ ((!(decide (j ∈ c2))) = true → True) ∧ ((!(decide (j ∈ c2))) = true → True) ∧ ((!(decide (j ∈ c2))) = true → Callable Try.prog 89 ∧ CallOk Try.prog (On w43) 89 [.agg #[.int .i64 ((l.getD (c2.getD k.toNat 0).toNat (0, (0, 0))).1), .int .i64 (((l.getD (c2.getD k.toNat 0).toNat (0, (0, 0))).2).1), .int .i64 (((l.getD (c2.getD k.toNat 0).toNat (0, (0, 0))).2).2)], .agg #[.int .i64 ((l.getD j.toNat (0, (0, 0))).1), .int .i64 (((l.getD j.toNat (0, (0, 0))).2).1), .int .i64 (((l.getD j.toNat (0, (0, 0))).2).2)], .int .i64 x, .int .i64 y].toArray (.bool (decide (touchK (l.getD (c2.getD k.toNat 0).toNat (0, (0, 0))) (l.getD j.toNat (0, (0, 0))) x y)))) ∧ TT ∧ True) hA H ⟨tv, tv, ⟨callable_of, callOk_of fun w hw => by exact in_any vc2 c2 j w (((H.on hw).out 0 rfl))⟩, tv, tv, fun _ => tv, fun _ => tv, fun _ => tv, fun hg0 => by replace hg0 := of_decide_eq_false (nT hg0); exact ⟨by kernel_rfl, by exact idx_ok (H.out 0 rfl) (by omega) (by omega)⟩, fun hg0 => by replace hg0 := of_decide_eq_false (nT hg0); exact by exact cell_flat (i := k) (H.out 0 rfl) (by omega) (by omega) 0 0, fun hg0 => by replace hg0 := of_decide_eq_false (nT hg0); exact ⟨by kernel_rfl, by exact idx_ok (H.arg hL) (by omega) (by omega)⟩, fun hg0 => by replace hg0 := of_decide_eq_false (nT hg0); exact ⟨by kernel_rfl, by exact row_flat (i := (c2.getD k.toNat 0)) (H.arg hL) (by omega) (by omega) (0, (0, 0))⟩, fun _ => tv, fun _ => tv, fun hg0 => by replace hg0 := of_decide_eq_false (nT hg0); exact ⟨by kernel_rfl, by exact idx_ok (H.arg hL) (by omega) (by omega)⟩, fun hg0 => by replace hg0 := of_decide_eq_false (nT hg0); exact ⟨by kernel_rfl, by exact row_flat (i := j) (H.arg hL) (by omega) (by omega) (0, (0, 0))⟩, fun _ => tv, fun _ => tv, fun _ => ⟨callable_of, callOk_of fun w hw => by exact touch_any (l.getD (c2.getD k.toNat 0).toNat (0, (0, 0))) (l.getD j.toNat (0, (0, 0))) x y w⟩, tv, tv⟩ fun a w47 hA H hG => ?_
       refine hK46 _ _ ?_
       refine go_cond hA (.tmp 57) ((!(decide (j ∈ c2))) && (decide (touchK (l.getD (c2.getD k.toNat 0).toNat (0, (0, 0))) (l.getD j.toNat (0, (0, 0))) x y))) (fun hb48 => ?_) (fun hb48 => ?_)
       · have hhb48 := (⟨of_decide_eq_false (nT ((aT hb48).1)), of_decide_eq_true ((aT hb48).2)⟩ : _ ∧ _)
         refine region_list ?_
         refine q_list 0 2 [] [(0, vl), (1, iv x), (2, iv y), (7, vo), (8, vd), (9, iv i), (11, iv k), (12, iv j), (58, vc2), (59, iv j)] (TT ∧ TT ∧ True) hA H ⟨tv, tv, tv⟩ fun a w49 hA H hG => ?_
         refine list_at 2 ?_; refine q_lit 2 60 27 1 #[(0, .tmp 59)] 3 [(0, iv j)] [.int .i64 j] [(0, vl), (1, iv x), (2, iv y), (7, vo), (8, vd), (9, iv i), (11, iv k), (12, iv j), (58, vc2)] hA H fun b50 a w51 H hA hG hge_b50 => ?_
         clear hge_b50
         refine list_at 3 ?_; refine q_push 3 61 (.tmp 58) (.tmp 60) 1 0 b50 1 1 vc2 c2 [j] [.int .i64 j] [(0, vl), (1, iv x), (2, iv y), (7, vo), (8, vd), (9, iv i), (11, iv k), (12, iv j)] hA H Try.E27 rfl rfl (by exact (RowRd.single (α := Int) rfl)) rfl (by simp only [List.length_cons, List.length_nil, List.length_append]; omega) (by decide) fun v52 a w53 H hA hG => ?_
         replace H : Fr _ _ _ [.row 3 v52 (c2 ++ [j]), .row 27 vo out, .row 3 vd d] := H.drop 0
         refine q_list 4 1 [] [(0, vl), (1, iv x), (2, iv y), (7, vo), (8, vd), (9, iv i), (10, v52), (11, iv k), (12, iv j)] (TT ∧ True) hA H ⟨tv, tv⟩ fun a w54 hA H hG => ?_
         refine list_end ?_
         refine hK45 _ _ ?_
         refine q_reg [] [(0, vl), (1, iv x), (2, iv y), (7, vo), (8, vd), (9, iv i), (10, v52), (11, iv k), (12, iv (j + 1))] (TT ∧ (InR .i64 (j + 1)) ∧ TT ∧ True) hA H ⟨tv, ⟨by omega, by omega⟩, tv, tv⟩ fun a w55 hA H hG => ?_
         refine ⟨(j + 1, v52, c2 ++ [j]), ⟨env_sub _ hA, ⟨_, H⟩, ?_⟩, ?_⟩
         · (try dsimp only); exact ⟨by omega, by omega, by (try simp only [List.length_append, List.length_cons, List.length_nil]); omega, bf_push hb (by omega) j0 (by omega) hhb48.1 hhb48.2⟩
         (try dsimp only); omega
       have hhb48 := (aF hb48).imp (fun h => of_decide_eq_true (nF h)) (fun h => of_decide_eq_false h)
       refine go_skip ?_
       refine hK45 _ _ ?_
       refine q_reg [] [(0, vl), (1, iv x), (2, iv y), (7, vo), (8, vd), (9, iv i), (10, vc2), (11, iv k), (12, iv (j + 1))] (TT ∧ (InR .i64 (j + 1)) ∧ TT ∧ True) hA H ⟨tv, ⟨by omega, by omega⟩, tv, tv⟩ fun a w56 hA H hG => ?_
       refine ⟨(j + 1, vc2, c2), ⟨env_sub _ hA, ⟨_, H⟩, ?_⟩, ?_⟩
       · (try dsimp only); exact ⟨by omega, by omega, by (try simp only [List.length_append, List.length_cons, List.length_nil]); omega, bf_skip hb j0 hhb48⟩
       (try dsimp only); omega
     have hhb44 := of_decide_eq_false hb44
     refine go_exit 4 ?_
     refine hK36 _ _ ?_
     refine q_reg [] [(0, vl), (1, iv x), (2, iv y), (7, vo), (8, vd), (9, iv i), (10, vc2), (11, iv (k + 1))] (TT ∧ (InR .i64 (k + 1)) ∧ TT ∧ True) hA H ⟨tv, ⟨by omega, by omega⟩, tv, tv⟩ fun a w57 hA H hG => ?_
     refine ⟨(k + 1, vc2, c2), ⟨env_sub _ hA, ⟨_, H⟩, ?_⟩, ?_⟩
     · (try dsimp only); exact bf_next hb (by omega) (by omega)
     (try dsimp only); omega
   have hhb35 := of_decide_eq_false hb35
   refine go_exit 2 ?_
   refine hK27 _ _ ?_
   refine go_seq fun K58 hK58 => ?_
   refine region_list ?_
   refine q_list 0 2 [] [(0, vl), (1, iv x), (2, iv y), (7, vo), (9, iv i), (10, vc), (62, vd), (63, vc)] (TT ∧ TT ∧ True) hA H ⟨tv, tv, tv⟩ fun a w59 hA H hG => ?_
   refine list_at 2 ?_; refine q_pushS 2 64 (.tmp 62) (.tmp 63) 2 vd vc d c [(0, vl), (1, iv x), (2, iv y), (7, vo), (9, iv i), (10, vc)] hA H Try.E27 rfl (H.out 0 rfl) (by (try simp only [List.length_cons, List.length_nil, List.length_append]); omega) (by decide) (fun _ _ h => h) fun v60 a w61 H hA hG => ?_
   replace H : Fr _ _ _ [.row 3 vc c, .row 27 vo out, .row 3 v60 (d ++ c)] := H
   refine q_list 3 1 [] [(0, vl), (1, iv x), (2, iv y), (7, vo), (8, v60), (9, iv i), (10, vc)] (TT ∧ True) hA H ⟨tv, tv⟩ fun a w62 hA H hG => ?_
   refine list_end ?_
   refine hK58 _ _ ?_
   refine go_seq fun K63 hK63 => ?_
   refine q_reg [] [(0, vl), (1, iv x), (2, iv y), (7, vo), (8, v60), (9, iv i), (10, vc), (13, (.slice none 0 0))] (TT ∧ True) hA H ⟨tv, tv⟩ fun a w64 hA H hG => ?_
   refine hK63 _ _ ?_
   refine go_seq fun K65 hK65 => ?_
   refine go_seq fun K66 hK66 => ?_
   refine q_reg [] [(0, vl), (1, iv x), (2, iv y), (7, vo), (8, v60), (9, iv i), (10, vc), (13, (.slice none 0 0)), (14, iv 0)] (TT ∧ True) hA H ⟨tv, tv⟩ fun a w67 hA H hG => ?_
   refine hK66 _ _ ?_
   refine go_block 6 ?_
   replace H := H.newRow (α := Int) 3
   refine go_loop_ (Int × Value × List Int) (fun x_ a W => (fun (q : Int) (vs : Value) (s : List Int) => EnvOk 83 a (keepEnv [(0, vl), (1, iv x), (2, iv y), (7, vo), (8, v60), (9, iv i), (10, vc), (13, vs), (14, iv q)]) ∧ (∃ S, Fr o W S [.row 3 vs s, .row 3 vc c, .row 27 vo out, .row 3 v60 (d ++ c)]) ∧ 0 ≤ q ∧ q ≤ (l.length : Int) ∧ (s.length : Int) ≤ q ∧ s = (upto q).filter fun x => decide (x ∈ c)) x_.1 x_.2.1 x_.2.2) (fun x_ => (fun (q : Int) (vs : Value) (s : List Int) => ((l.length : Int) - q).toNat) x_.1 x_.2.1 x_.2.2) (0, .slice none 0 0, []) ?_ (fun x_ a w69 hI => ?_)
   · (try dsimp only); exact ⟨env_sub _ hA, ⟨_, H⟩, by omega, by omega, by simp, rfl⟩
   obtain ⟨q, vs, s⟩ := x_
   obtain ⟨hA, ⟨S, H⟩, q0, q0b, q1, hs⟩ := hI
   try dsimp only at q0 q0b q1 hs
   replace H : Fr _ _ _ [.row 3 vs s, .row 3 vc c, .row 27 vo out, .row 3 v60 (d ++ c)] := H
   refine go_seq fun K70 hK70 => ?_
   refine go_seq fun K71 hK71 => ?_
   refine q_reg [(67, iv (l.length : Int))] [(0, vl), (1, iv x), (2, iv y), (7, vo), (8, v60), (9, iv i), (10, vc), (13, vs), (14, iv q), (68, .bool (decide (q < (l.length : Int))))] (TT ∧ TT ∧ (LenOk vl (l.length : Int)) ∧ TT ∧ True) hA H ⟨tv, tv, by exact len_ok (H.arg hL), tv, tv⟩ fun a w72 hA H hG => ?_
   refine hK71 _ _ ?_
   refine go_cond hA (.tmp 68) (decide (q < (l.length : Int))) (fun hb73 => ?_) (fun hb73 => ?_)
   · have hhb73 := of_decide_eq_true hb73
     refine go_skip ?_
     refine hK70 _ _ ?_
     refine go_seq fun K74 hK74 => ?_
     refine go_block 7 ?_
     refine go_seq fun K75 hK75 => ?_
     refine q_reg [(73, .bool (decide (q ∈ c)))] [(0, vl), (1, iv x), (2, iv y), (7, vo), (8, v60), (9, iv i), (10, vc), (13, vs), (14, iv q), (73, .bool (decide (q ∈ c)))] (TT ∧ TT ∧ (Callable Try.prog 24 ∧ CallOk Try.prog (On w72) 24 [vc, .int .i64 q].toArray (.bool (decide (q ∈ c)))) ∧ True) hA H ⟨tv, tv, ⟨callable_of, callOk_of fun w hw => by exact in_any vc c q w (((H.on hw).out 1 rfl))⟩, tv⟩ fun a w76 hA H hG => ?_
     refine hK75 _ _ ?_
     refine go_cond hA (.tmp 73) (decide (q ∈ c)) (fun hb77 => ?_) (fun hb77 => ?_)
     · have hhb77 := of_decide_eq_true hb77
       refine region_list ?_
       refine q_list 0 2 [] [(0, vl), (1, iv x), (2, iv y), (7, vo), (8, v60), (9, iv i), (10, vc), (14, iv q), (74, vs), (75, iv q)] (TT ∧ TT ∧ True) hA H ⟨tv, tv, tv⟩ fun a w78 hA H hG => ?_
       refine list_at 2 ?_; refine q_lit 2 76 27 1 #[(0, .tmp 75)] 3 [(0, iv q)] [.int .i64 q] [(0, vl), (1, iv x), (2, iv y), (7, vo), (8, v60), (9, iv i), (10, vc), (14, iv q), (74, vs)] hA H fun b79 a w80 H hA hG hge_b79 => ?_
       clear hge_b79
       refine list_at 3 ?_; refine q_push 3 77 (.tmp 74) (.tmp 76) 1 0 b79 1 1 vs s [q] [.int .i64 q] [(0, vl), (1, iv x), (2, iv y), (7, vo), (8, v60), (9, iv i), (10, vc), (14, iv q)] hA H Try.E27 rfl rfl (by exact (RowRd.single (α := Int) rfl)) rfl (by simp only [List.length_cons, List.length_nil, List.length_append]; omega) (by decide) fun v81 a w82 H hA hG => ?_
       replace H : Fr _ _ _ [.row 3 v81 (s ++ [q]), .row 3 vc c, .row 27 vo out, .row 3 v60 (d ++ c)] := H.drop 0
       refine q_list 4 1 [] [(0, vl), (1, iv x), (2, iv y), (7, vo), (8, v60), (9, iv i), (10, vc), (13, v81), (14, iv q)] (TT ∧ True) hA H ⟨tv, tv⟩ fun a w83 hA H hG => ?_
       refine list_end ?_
       refine hK74 _ _ ?_
       refine q_reg [] [(0, vl), (1, iv x), (2, iv y), (7, vo), (8, v60), (9, iv i), (10, vc), (13, v81), (14, iv (q + 1))] (TT ∧ (InR .i64 (q + 1)) ∧ TT ∧ True) hA H ⟨tv, ⟨by omega, by omega⟩, tv, tv⟩ fun a w84 hA H hG => ?_
       refine ⟨(q + 1, v81, s ++ [q]), ⟨env_sub _ hA, ⟨_, H⟩, ?_⟩, ?_⟩
       · (try dsimp only); exact ⟨by omega, by omega, by (try simp only [List.length_append, List.length_cons, List.length_nil]); omega, by rw [upfil_snoc q0, ← hs]; first | rw [if_pos hhb77] | rw [if_neg hhb77, List.append_nil]⟩
       (try dsimp only); omega
     have hhb77 := of_decide_eq_false hb77
     refine go_skip ?_
     refine hK74 _ _ ?_
     refine q_reg [] [(0, vl), (1, iv x), (2, iv y), (7, vo), (8, v60), (9, iv i), (10, vc), (13, vs), (14, iv (q + 1))] (TT ∧ (InR .i64 (q + 1)) ∧ TT ∧ True) hA H ⟨tv, ⟨by omega, by omega⟩, tv, tv⟩ fun a w85 hA H hG => ?_
     refine ⟨(q + 1, vs, s), ⟨env_sub _ hA, ⟨_, H⟩, ?_⟩, ?_⟩
     · (try dsimp only); exact ⟨by omega, by omega, by (try simp only [List.length_append, List.length_cons, List.length_nil]); omega, by rw [upfil_snoc q0, ← hs]; first | rw [if_pos hhb77] | rw [if_neg hhb77, List.append_nil]⟩
     (try dsimp only); omega
   have hhb73 := of_decide_eq_false hb73
   refine go_exit 6 ?_
   refine hK65 _ _ ?_
   obtain ⟨S, _, H⟩ := H.freeze 0 rfl
   replace H : Fr _ _ _ [.ro vs s, .row 3 vc c, .row 27 vo out, .row 3 v60 (d ++ c)] := H
   obtain ⟨sfp, sfn, sfc, rfl⟩ := rd_form (H.getS 0 rfl)
   replace H : Fr _ _ _ [.ro (.slice sfp sfn sfc) s, .row 3 vc c, .row 27 vo out, .row 3 v60 (d ++ c)] := H
   refine region_list ?_
   refine q_list 0 2 [] [(0, vl), (1, iv x), (2, iv y), (8, v60), (9, iv i), (78, vo), (79, (.slice sfp sfn sfc))] (TT ∧ TT ∧ True) hA H ⟨tv, tv, tv⟩ fun a w87 hA H hG => ?_
   refine list_at 2 ?_; refine q_lit 2 80 67 1 #[(0, .tmp 79)] 27 [(0, (.slice sfp sfn sfc))] [(.slice sfp sfn sfc)] [(0, vl), (1, iv x), (2, iv y), (8, v60), (9, iv i), (78, vo)] hA H fun b88 a w89 H hA hG hge_b88 => ?_
   clear hge_b88
   refine list_at 3 ?_; refine q_push 3 81 (.tmp 78) (.tmp 80) 3 0 b88 1 1 vo out [s] [(.slice sfp sfn sfc)] [(0, vl), (1, iv x), (2, iv y), (8, v60), (9, iv i)] hA H Try.E67 rfl rfl (by exact (RowRd.single (α := List (Int)) ⟨_, rfl, rd_slice (H.getS 1 rfl)⟩)) rfl (by simp only [List.length_cons, List.length_nil, List.length_append]; omega) (by decide) fun v90 a w91 H hA hG => ?_
   replace H : Fr _ _ _ [.ro (.slice sfp sfn sfc) s, .row 3 vc c, .row 27 v90 (out ++ [s]), .row 3 v60 (d ++ c)] := H.drop 0
   refine q_list 4 1 [] [(0, vl), (1, iv x), (2, iv y), (7, v90), (8, v60), (9, iv i)] (TT ∧ True) hA H ⟨tv, tv⟩ fun a w92 hA H hG => ?_
   refine list_end ?_
   refine hK16 _ _ ?_
   refine q_reg [] [(0, vl), (1, iv x), (2, iv y), (7, v90), (8, v60), (9, iv (i + 1))] (TT ∧ (InR .i64 (i + 1)) ∧ TT ∧ True) hA H ⟨tv, ⟨by omega, by omega⟩, tv, tv⟩ fun a w93 hA H hG => ?_
   replace H := Fr.order [.ro (.slice sfp sfn sfc) s, .row 3 vc c, .row 27 v90 (out ++ [s]), .row 3 v60 (d ++ c)] [] H [2, 3, 0, 1] (by show List.Perm _ (List.range 4); decide)
   replace H : Fr _ _ _ [.row 27 v90 (out ++ [s]), .row 3 v60 (d ++ c), .ro (.slice sfp sfn sfc) s, .row 3 vc c] := H
   replace H := H.drop 3
   replace H := H.drop 2
   refine ⟨(i + 1, v90, out ++ [s], v60, d ++ c), ⟨env_sub _ hA, ⟨_, H⟩, ?_⟩, ?_⟩
   · (try dsimp only); exact ⟨by omega, by omega, by (try simp only [List.length_append, List.length_cons, List.length_nil]); omega, by rw [hs, show q = (l.length : Int) by omega]; exact dn_add hd h0 (by omega) hni hb (by omega)⟩
   (try dsimp only); omega
 have hhb15 := of_decide_eq_false hb15
 refine go_exit 0 ?_
 refine hK7 _ _ ?_
 refine go_seq fun K94 hK94 => ?_
 refine q_reg [] [(6, vo)] (TT ∧ TT ∧ True) hA H ⟨tv, tv, tv⟩ fun a w95 hA H hG => ?_
 refine hK94 _ _ ?_
 refine go_ret_ ?_
 refine ret_one 6 vo hA ?_
 have ho := (H.give 0 rfl)
 rw [show i = (l.length : Int) by omega] at hd; rw [dn_end hd] at ho; exact ⟨_, rfl, ho, H.below⟩
theorem solid_ref {n : Int} {E : List (Int × Int)} {V L : List Int} (h : partE n E V L = 0) :
   (decide (((blocksL n E V L).length : Int) = 1) && (decide (((blocksL n E V L).getD (0 : Int).toNat ([], [])).1 = V) && decide (((blocksL n E V L).getD (0 : Int).toNat ([], [])).2 = L))) = solidB n E V L := by
 unfold solidB blocksE
 rw [if_neg (by omega), h]
 simp
theorem eK_len (l : List Lk) : (eK l).length = l.length := by simp [eK]
theorem eK_getD {l : List Lk} {i : Nat} (h : i < l.length) : (eK l).getD i (0, 0) = ((l.getD i (0, (0, 0))).1, (l.getD i (0, (0, 0))).2.1) := by
 unfold eK
 rw [List.getD_eq_getElem?_getD, List.getElem?_map, List.getElem?_eq_getElem h, List.getD_eq_getElem?_getD, List.getElem?_eq_getElem h]; rfl
theorem ends_eK (l : List Lk) : endsL (eK l) (upto (l.length : Int)) = endsK l := by
 have key : ∀ k : Nat, k ≤ l.length → endsL (eK l) (upto (k : Int)) = endsK (l.take k) := by
   intro k
   induction k with
   | zero => intro _; rfl
   | succ k ih =>
     intro hk
     have e := endsK_snoc (l := l) (i := (k : Int)) (by omega) (by omega)
     rw [show ((k : Int) + 1).toNat = k + 1 by omega, Int.toNat_natCast] at e
     rw [show ((k + 1 : Nat) : Int) = (k : Int) + 1 by omega, upto_succ (by omega), e, ← ih (by omega)]
     unfold endsL
     rw [List.flatMap_append, List.flatMap_cons, List.flatMap_nil, List.append_nil, Int.toNat_natCast, eK_getD (by omega)]
     rfl
 have := key l.length (Nat.le_refl _)
 rwa [List.take_length] at this
theorem span_K {l : List Lk} (h : rightE (nK l) (eK l) = 0) : spanE (nK l) (eK l) (upto (l.length : Int)) = ((vertsL l, upto (l.length : Int)), 0) := by
 unfold spanE
 rw [if_neg (by omega), if_neg (fun q => q (upto_rises (by rw [eK_len]; omega))), ends_eK]; rfl
theorem wholeR_K {l : List Lk} (h : okWh l) (h2 : rightE (nK l) (eK l) = 0) : wholeR l = (((nK l, eK l), (vertsL l, upto (l.length : Int))), true) := by
 rw [wholeR_ok h, span_K h2]; rfl
theorem rk_ok {l : List Lk} (h : okWh l) (h2 : rightE (nK l) (eK l) = 0) : rightK l = solidB (nK l) (eK l) (vertsL l) (upto (l.length : Int)) := by
 unfold rightK; rw [wholeR_K h h2]; rfl
theorem rk_wh {l : List Lk} (h : rightK l = true) : okWh l ∧ rightE (nK l) (eK l) = 0 := by
 unfold rightK at h
 rw [Bool.and_eq_true] at h
 have hW := whole_facts h.1 h.2
 refine ⟨hW.wh, ?_⟩
 have h1 := h.1
 rw [wholeR_ok hW.wh] at h1
 have h1 : (spanE (nK l) (eK l) (upto (l.length : Int))).2 = 0 := of_decide_eq_true h1
 unfold spanE at h1
 by_cases q : rightE (nK l) (eK l) = 0
 · exact q
 rw [if_pos q] at h1; exact h1
theorem rk_not {l : List Lk} {i : Nat} (hi : i < l.length) (h : ¬ okLk l i) : rightK l = false := Bool.eq_false_iff.2 fun q => h ((rk_wh q).1 i hi)
theorem rk_err {l : List Lk} (h : ¬ rightE (nK l) (eK l) = 0) : rightK l = false := Bool.eq_false_iff.2 fun q => h (rk_wh q).2
theorem rk_big {l : List Lk} (h : (1024 : Int) < (l.length : Int)) : rightK l = false := Bool.eq_false_iff.2 fun q => by
 have := rightE_0 (rk_wh q).2
 rw [eK_len] at this; omega
theorem part_K {l : List Lk} (h2 : rightE (nK l) (eK l) = 0) : partE (nK l) (eK l) (vertsL l) (upto (l.length : Int)) = 0 := by
 obtain ⟨a, b, c, d⟩ := rightE_0 h2
 refine part_iff.2 ⟨h2, ?_, upto_rises (by rw [eK_len]; omega), fun e he v hv => ?_⟩
 · obtain ⟨h3, h4⟩ := compact_sort (endsK l)
   refine rises_iff.2 ⟨h3, fun x hx => ?_⟩
   have hx := (h4 x).1 hx
   rw [← ends_eK] at hx
   obtain ⟨e, he, ht⟩ := mem_endsL.1 hx
   have he := mem_upto.1 he
   have hk := d e.toNat (by rw [eK_len]; omega)
   unfold okE at hk
   rcases ht with ht | ht <;> omega
 obtain ⟨h3, h4⟩ := compact_sort (endsK l)
 refine (h4 v).2 ?_
 rw [← ends_eK]
 exact mem_endsL.2 ⟨e, he, hv⟩
theorem okLk_mk {l : List Lk} {i : Int} (hi : 0 ≤ i) (h1 : ∀ q : Nat, (q : Int) < i → lkI l (q : Int) ≠ lkI l i) (h2 : ¬ (lkA l i < 0)) (h3 : ¬ (lkB l i < 0)) (h4 : ¬ (1024 ≤ lkA l i)) (h5 : ¬ (1024 ≤ lkB l i)) (h6 : ¬ lkA l i = lkB l i) : okLk l i.toNat := by
 refine ⟨fun j hj => ?_, by unfold lkA at h2; omega, by unfold lkB at h3; omega, by unfold lkA lkB at h6; exact h6, by unfold lkA at h4; unfold lkB at h5; omega⟩
 have := h1 j (by omega)
 unfold lkI at this
 rwa [Int.toNat_natCast] at this
theorem okLk_no {l : List Lk} {i : Int} (h : (((lkA l i < 0 ∨ lkB l i < 0) ∨ 1024 ≤ lkA l i) ∨ 1024 ≤ lkB l i) ∨ lkA l i = lkB l i) : ¬ okLk l i.toNat := by
 rintro ⟨_, h1, h2, h3, h4⟩
 unfold lkA lkB at h
 omega
theorem okLk_twice {l : List Lk} {i k : Int} (h0 : 0 ≤ k) (hk : k < i) (h : lkI l k = lkI l i) : ¬ okLk l i.toNat := by
 rintro ⟨h1, _⟩
 exact h1 k.toNat (by omega) h
theorem candC_len (l : List Lk) (u v : Int) (cs : List (List Int)) : (candC l u v cs).length ≤ cs.length := by
 unfold candC; rw [List.length_map]; exact List.length_filter_le _ _
theorem candV_len {l : List Lk} (hl : l.length ≤ 100) (u : Int) (vs : List Int) : (candV l u vs).length ≤ vs.length * 100 := by
 induction vs with
 | nil => simp [candV]
 | cons v vs ih =>
   rw [candV_cons, List.length_append, List.length_cons]
   have := candC_len l u v (classesL l u v)
   have := classes_len l u v
   omega
theorem spU_len {l : List Lk} (hl : l.length ≤ 100) : ∀ us : List Int, us.length ≤ 200 → (spU l us).length ≤ us.length * 20000
 | [], _ => by simp [spU]
 | u :: us, h => by
   rw [spU, List.length_append, List.length_cons]
   rw [List.length_cons] at h
   have := candV_len hl u us
   have := spU_len hl us (by omega)
   omega
section
variable {l : List Lk} {E C : List Int} {i k j u v : Int} {out r X : List (Int × Int × List Int)}
theorem sp_u (h : out ++ spU l (E.drop i.toNat) = X) (h0 : 0 ≤ i) (h1 : i < (E.length : Int)) : out ++ (candV l (E.getD i.toNat 0) (E.drop (i + 1).toNat) ++ spU l (E.drop (i + 1).toNat)) = X := by
 rw [drop_roundD 0 h0 h1, spU] at h; exact h
theorem sp_v (h : out ++ (candV l u (E.drop k.toNat) ++ r) = X) (h0 : 0 ≤ k) (h1 : k < (E.length : Int)) : out ++ (candC l u (E.getD k.toNat 0) ((classesL l u (E.getD k.toNat 0)).drop (0 : Int).toNat) ++ (candV l u (E.drop (k + 1).toNat) ++ r)) = X := by
 rw [drop_roundD 0 h0 h1, candV_cons, List.append_assoc] at h; exact h
theorem sp_yes {C : List (List Int)} (h : out ++ (candC l u v (C.drop j.toNat) ++ r) = X) (h0 : 0 ≤ j) (h1 : j < (C.length : Int)) (hw : willB l ((C.getD j.toNat []).length : Int) = true) : (out ++ [(u, v, C.getD j.toNat [])]) ++ (candC l u v (C.drop (j + 1).toNat) ++ r) = X := by
 rw [drop_roundD [] h0 h1, candC_yes hw] at h; rw [List.append_assoc]; exact h
theorem sp_no {C : List (List Int)} (h : out ++ (candC l u v (C.drop j.toNat) ++ r) = X) (h0 : 0 ≤ j) (h1 : j < (C.length : Int)) (hw : willB l ((C.getD j.toNat []).length : Int) = false) : out ++ (candC l u v (C.drop (j + 1).toNat) ++ r) = X := by
 rw [drop_roundD [] h0 h1, candC_no hw] at h; exact h
theorem sp_cend {C : List (List Int)} (h : out ++ (candC l u v (C.drop j.toNat) ++ r) = X) (h1 : (C.length : Int) ≤ j) : out ++ r = X := by
 rw [List.drop_of_length_le (by omega)] at h; exact h
theorem sp_vend (h : out ++ (candV l u (E.drop k.toNat) ++ r) = X) (h1 : (E.length : Int) ≤ k) : out ++ r = X := by
 rw [List.drop_of_length_le (by omega)] at h; exact h
theorem sp_uend (h : out ++ spU l (E.drop i.toNat) = X) (h1 : (E.length : Int) ≤ i) : out = X := by
 rw [List.drop_of_length_le (by omega), spU, List.append_nil] at h; exact h
theorem spl_len (h : out ++ r = X) : out.length ≤ X.length := by rw [← h, List.length_append]; omega
end
theorem verts_wf {l : List Lk} (h : WfL l) : ∀ x ∈ vertsL l, wfI x := by
 intro x hx
 have hx : x ∈ endsK l := ((compact_sort (endsK l)).2 x).1 hx
 obtain ⟨y, hy, hxy⟩ := List.mem_flatMap.1 hx
 obtain ⟨j, hj, rfl⟩ := List.getElem_of_mem hy
 have h9 := h (j : Int) (by omega) (by omega)
 unfold lkA lkB at h9
 rw [Int.toNat_natCast, List.getD_eq_getElem?_getD, List.getElem?_eq_getElem hj, Option.getD_some] at h9
 simp only [List.mem_cons, List.not_mem_nil, or_false] at hxy
 rcases hxy with e | e
 · rw [e]; exact h9.1
 rw [e]; exact h9.2.1
theorem spread_any (n : Int) (ve : Value) (E : List (Int × Int)) (vv vl : Value) (V L : List Int) (vf : Value) (x0 but : Int) (o : Orig) (hn : -9223372036854775808 ≤ n ∧ n ≤ 9223372036854775807) (hE : Rd (· < o.w.heap.size) o.w ve E) (hV : Rd (· < o.w.heap.size) o.w vv V) (hL : Rd (· < o.w.heap.size) o.w vl L) (hF : Rd (· < o.w.heap.size) o.w vf [x0]) (hpt : partE n E V L = 0) (hab : x0 ≠ but) (haU : x0 ∈ endsL E L) :
 Calls Try.prog 131 [.agg #[.int .i64 n, ve], .agg #[vv, vl], vf, .int .i64 but].toArray o.w (Giv o (fun S v w' => Rd S w' v (spread E L x0 but))) := by
 obtain ⟨hp1, hp2, hp3, hp4⟩ := partE_0 hpt
 have hr9 := rightE_0 hp1
 have hl9 := rises_len hp3 (by omega)
 refine enter Try.f131 89 Try.func131 fun a hA => ?_
 replace hA := env_sub [(0, .agg #[.int .i64 n, ve]), (1, .agg #[vv, vl]), (2, vf), (3, iv but)] hA
 have H := Fr.start o
 refine go_seq fun K1 hK1 => ?_
 refine region_list ?_
 refine list_at 0 ?_; refine q_box 0 4 24 (.tmp 0) (.agg #[.int .i64 n, ve]) [.int .i64 n, ve] [(1, .agg #[vv, vl]), (2, vf), (3, iv but)] hA H fun b2 a w3 H hA hG hge_b2 => ?_
 clear hge_b2
 refine list_at 1 ?_; refine q_box 1 5 29 (.tmp 1) (.agg #[vv, vl]) [vv, vl] [(2, vf), (3, iv but), (4, pv b2)] hA H fun b4 a w5 H hA hG hge_b4 => ?_
 clear hge_b4
 refine q_list 2 1 [] [(2, vf), (3, iv but), (4, pv b2), (5, pv b4)] (TT ∧ True) hA H ⟨tv, tv⟩ fun a w6 hA H hG => ?_
 refine list_end ?_
 refine hK1 _ _ ?_
 refine go_seq fun K7 hK7 => ?_
 refine q_reg [] [(2, vf), (3, iv but), (4, pv b2), (5, pv b4), (9, (.slice none 0 0))] (TT ∧ True) hA H ⟨tv, tv⟩ fun a w8 hA H hG => ?_
 refine hK7 _ _ ?_
 refine go_seq fun K9 hK9 => ?_
 replace H := H.newRow (α := Int) 3
 replace H : Fr _ _ _ [.row 3 (.slice none 0 0) ([] : List Int), .box b4 29 [vv, vl], .box b2 24 [.int .i64 n, ve]] := H
 refine region_list ?_
 refine q_list 0 2 [] [(3, iv but), (4, pv b2), (5, pv b4), (13, (.slice none 0 0)), (14, vf)] (TT ∧ TT ∧ True) hA H ⟨tv, tv, tv⟩ fun a w10 hA H hG => ?_
 refine list_at 2 ?_; refine q_pushS 2 15 (.tmp 13) (.tmp 14) 0 (.slice none 0 0) vf ([] : List Int) [x0] [(3, iv but), (4, pv b2), (5, pv b4)] hA H Try.E27 rfl (H.arg hF) (by simp only [List.length_cons, List.length_nil, List.length_append]; omega) (by decide) (fun _ _ h => h) fun v11 a w12 H hA hG => ?_
 replace H : Fr _ _ _ [.row 3 v11 (([] : List Int) ++ [x0]), .box b4 29 [vv, vl], .box b2 24 [.int .i64 n, ve]] := H
 refine q_list 3 1 [] [(3, iv but), (4, pv b2), (5, pv b4), (9, v11)] (TT ∧ True) hA H ⟨tv, tv⟩ fun a w13 hA H hG => ?_
 refine list_end ?_
 refine hK9 _ _ ?_
 refine go_seq fun K14 hK14 => ?_
 refine go_seq fun K15 hK15 => ?_
 refine q_reg [] [(3, iv but), (4, pv b2), (5, pv b4), (9, v11), (10, iv 0)] (TT ∧ True) hA H ⟨tv, tv⟩ fun a w16 hA H hG => ?_
 refine hK15 _ _ ?_
 refine go_block 0 ?_
 refine go_loop_ (Int × Value × List Int) (fun x_ a W => (fun (i : Int) (vr : Value) (m : List Int) => EnvOk 89 a (keepEnv [(3, iv but), (4, pv b2), (5, pv b4), (9, vr), (10, iv i)]) ∧ (∃ S, Fr o W S [.row 3 vr m, .box b4 29 [vv, vl], .box b2 24 [.int .i64 n, ve]]) ∧ 0 ≤ i ∧ i ≤ (m.length : Int) ∧ Sp (grE E L) x0 but (endsL E L) m ∧ spF E L but (2 * L.length + 1 - i.toNat) i.toNat m = spread E L x0 but) x_.1 x_.2.1 x_.2.2) (fun x_ => (fun (i : Int) (vr : Value) (m : List Int) => (2 * (L.length : Int) + 1 - i).toNat) x_.1 x_.2.1 x_.2.2) (0, v11, [x0]) ?_ (fun x_ a w18 hI => ?_)
 · (try dsimp only); exact ⟨env_sub _ hA, ⟨_, H⟩, by omega, by simp, sp_first hab haU, rfl⟩
 obtain ⟨i, vr, m⟩ := x_
 obtain ⟨hA, ⟨S, H⟩, h0, h0b, hsp, hsf⟩ := hI
 try dsimp only at h0 h0b hsp hsf
 have hml := sp_len hsp
 refine go_seq fun K19 hK19 => ?_
 refine go_seq fun K20 hK20 => ?_
 refine q_reg [(18, iv (m.length : Int))] [(3, iv but), (4, pv b2), (5, pv b4), (9, vr), (10, iv i), (19, .bool (decide (i < (m.length : Int))))] (TT ∧ TT ∧ (LenOk vr (m.length : Int)) ∧ TT ∧ True) hA H ⟨tv, tv, by exact len_ok (H.out 0 rfl), tv, tv⟩ fun a w21 hA H hG => ?_
 refine hK20 _ _ ?_
 refine go_cond hA (.tmp 19) (decide (i < (m.length : Int))) (fun hb22 => ?_) (fun hb22 => ?_)
 · have hhb22 := of_decide_eq_true hb22
   refine go_skip ?_
   refine hK19 _ _ ?_
   refine go_seq fun K23 hK23 => ?_
   refine go_block 1 ?_
   refine go_seq fun K24 hK24 => ?_
   refine q_reg [] [(3, iv but), (4, pv b2), (5, pv b4), (9, vr), (10, iv i), (11, iv 0)] (TT ∧ True) hA H ⟨tv, tv⟩ fun a w25 hA H hG => ?_
   refine hK24 _ _ ?_
   refine go_block 2 ?_
   refine go_loop_ (Int × Value × List Int) (fun x_ a W => (fun (k : Int) (vr2 : Value) (m2 : List Int) => EnvOk 89 a (keepEnv [(3, iv but), (4, pv b2), (5, pv b4), (9, vr2), (10, iv i), (11, iv k)]) ∧ (∃ S, Fr o W S [.row 3 vr2 m2, .box b4 29 [vv, vl], .box b2 24 [.int .i64 n, ve]]) ∧ 0 ≤ k ∧ k ≤ (L.length : Int) ∧ m2 = spRound E but i.toNat (L.take k.toNat) m) x_.1 x_.2.1 x_.2.2) (fun x_ => (fun (k : Int) (vr2 : Value) (m2 : List Int) => ((L.length : Int) - k).toNat) x_.1 x_.2.1 x_.2.2) (0, vr, m) ?_ (fun x_ a w27 hI => ?_)
   · (try dsimp only); exact ⟨env_sub _ hA, ⟨_, H⟩, by omega, by omega, by simp [spRound]⟩
   obtain ⟨k, vr2, m2⟩ := x_
   obtain ⟨hA, ⟨S, H⟩, k0, k0b, hm2⟩ := hI
   try dsimp only at k0 k0b hm2
   obtain ⟨hsp2, hr2, _⟩ := sp_round (i := i.toNat) (but := but) (sp_ends (E := E) (L := L)) (l := L.take k.toNat) (fun x hx => List.mem_of_mem_take hx) hsp (by omega)
   rw [← hm2] at hsp2 hr2
   have hml2 := sp_len hsp2
   have hr3 : m.length ≤ m2.length := by obtain ⟨r9, e9⟩ := hr2; rw [e9, List.length_append]; omega
   replace hr2 : True ∧ ∃ r, m2 = m ++ r := ⟨tv, hr2⟩
   refine go_seq fun K28 hK28 => ?_
   refine go_seq fun K29 hK29 => ?_
   refine q_reg [(24, vl), (25, iv (L.length : Int))] [(3, iv but), (4, pv b2), (5, pv b4), (9, vr2), (10, iv i), (11, iv k), (26, .bool (decide (k < (L.length : Int))))] (TT ∧ (0 < Try.prog.cellsOf 27) ∧ (CellOk (On w27) b4 (0 + 1) (vl)) ∧ (LenOk vl (L.length : Int)) ∧ TT ∧ True) hA H ⟨tv, by decide +kernel, by exact box_cell H 1 rfl 1, by exact len_ok (H.arg hL), tv, tv⟩ fun a w30 hA H hG => ?_
   refine hK29 _ _ ?_
   refine go_cond hA (.tmp 26) (decide (k < (L.length : Int))) (fun hb31 => ?_) (fun hb31 => ?_)
   · have hhb31 := of_decide_eq_true hb31
     refine go_skip ?_
     refine hK28 _ _ ?_
     refine go_seq fun K32 hK32 => ?_
     refine go_block 3 ?_
     refine go_seq fun K33 hK33 => ?_
     have hx := hp3 k.toNat (by omega)
     have H0 := H
     have hM0 := H0.keeps none (.inl rfl)
     refine region_mix (But w30 none) [0, 1, 2, 3, 4, 5, 6, 7, 8, 9] 11 ?_
     replace H := H.drawn; have hD := But.drew w30 none
     generalize ({ w30 with drawn := w30.drawn + 1 } : World) = w34 at H hD ⊢
     refine m_take (n := 2) [0, 1, 2, 3, 4, 5, 6, 7, 8] #[true, true, true, true, true, true, true, true, true, false, false] [(30, ve), (32, vl), (35, iv (L.getD k.toNat 0)), (37, .agg #[.int .i64 ((E.getD (L.getD k.toNat 0).toNat (0, 0)).1), .int .i64 ((E.getD (L.getD k.toNat 0).toNat (0, 0)).2)])] [(3, iv but), (4, pv b2), (5, pv b4), (9, vr2), (10, iv i), (11, iv k), (37, .agg #[.int .i64 ((E.getD (L.getD k.toNat 0).toNat (0, 0)).1), .int .i64 ((E.getD (L.getD k.toNat 0).toNat (0, 0)).2)])] ((0 < Try.prog.cellsOf 22) ∧ (CellOk (But w30 none) b2 (0 + 1) (ve)) ∧ (0 < Try.prog.cellsOf 27) ∧ (CellOk (But w30 none) b4 (0 + 1) (vl)) ∧ TT ∧ ((Try.prog.info? 3).isSome = true ∧ IdxOk vl k) ∧ (CellOk (But w30 none) (hdB vl) (hdO vl + k.toNat * 1) (.int .i64 (L.getD k.toNat 0))) ∧ ((Try.prog.info? 99).isSome = true ∧ IdxOk ve (L.getD k.toNat 0)) ∧ ((Try.prog.info? 99).isSome = true ∧ RowOk (But w30 none) (hdB ve) (hdO ve + (L.getD k.toNat 0).toNat * 2) (Try.prog.cellsOf 99) #[.int .i64 ((E.getD (L.getD k.toNat 0).toNat (0, 0)).1), .int .i64 ((E.getD (L.getD k.toNat 0).toNat (0, 0)).2)]) ∧ True) hA hD ⟨by decide +kernel, by exact box_cellC (box_atC H0 none 2 rfl (fun e => by cases e)) 1, by decide +kernel, by exact box_cellC (box_atC H0 none 1 rfl (fun e => by cases e)) 1, tv, ⟨by kernel_rfl, by exact idx_ok (H0.argT hL) (by omega) (by omega)⟩, by exact cell_flatC hM0 (i := k) (H0.argT hL) (by omega) (by omega) 0 0, ⟨by kernel_rfl, by exact idx_ok (H0.argT hE) (by omega) (by omega)⟩, ⟨by kernel_rfl, by exact row_flatC hM0 (i := (L.getD k.toNat 0)) (H0.argT hE) (by omega) (by omega) (0, 0)⟩, tv⟩ fun a hA => ?_
     refine m_one 9 ?_; refine q_alloc 9 12 99 [.int .i64 0, .int .i64 0] [(3, iv but), (4, pv b2), (5, pv b4), (9, vr2), (10, iv i), (11, iv k), (37, .agg #[.int .i64 ((E.getD (L.getD k.toNat 0).toNat (0, 0)).1), .int .i64 ((E.getD (L.getD k.toNat 0).toNat (0, 0)).2)])] hA H fun b35 a w36 H hA hG hge_b35 => ?_
     replace hge_b35 := Nat.le_trans hD.1 hge_b35
     replace hD := hD.below hG
     refine ⟨fun _ => hD, ?_⟩
     refine m_one 10 ?_; refine q_store 10 99 (.tmp 12) (.tmp 37) 0 b35 (0) 99 [.int .i64 0, .int .i64 0] [.int .i64 ((E.getD (L.getD k.toNat 0).toNat (0, 0)).1), .int .i64 ((E.getD (L.getD k.toNat 0).toNat (0, 0)).2)] [.int .i64 ((E.getD (L.getD k.toNat 0).toNat (0, 0)).1), .int .i64 ((E.getD (L.getD k.toNat 0).toNat (0, 0)).2)] (.agg #[.int .i64 ((E.getD (L.getD k.toNat 0).toNat (0, 0)).1), .int .i64 ((E.getD (L.getD k.toNat 0).toNat (0, 0)).2)]) [(3, iv but), (4, pv b2), (5, pv b4), (9, vr2), (10, iv i), (11, iv k), (12, pv b35)] hA H rfl rfl (Nat.le_of_ble_eq_true (by kernel_rfl)) rfl (fun v hv => by simp only [List.mem_cons, List.not_mem_nil, or_false] at hv; rcases hv with rfl | rfl; exact rfl; exact rfl) fun a w37 H hA hG => ?_
     replace H : Fr _ _ _ [.box b35 99 [.int .i64 ((E.getD (L.getD k.toNat 0).toNat (0, 0)).1), .int .i64 ((E.getD (L.getD k.toNat 0).toNat (0, 0)).2)], .row 3 vr2 m2, .box b4 29 [vv, vl], .box b2 24 [.int .i64 n, ve]] := H
     refine ⟨fun h => absurd h (by decide), ?_⟩
     refine m_end ?_
     refine hK33 _ _ ?_
     refine go_seq fun K38 hK38 => ?_
     refine go_seq fun K39 hK39 => ?_
     refine q_draw [(39, iv ((E.getD (L.getD k.toNat 0).toNat (0, 0)).1)), (43, iv (m2.getD i.toNat 0)), (47, iv ((E.getD (L.getD k.toNat 0).toNat (0, 0)).2)), (54, iv ((E.getD (L.getD k.toNat 0).toNat (0, 0)).2)), (55, .bool (decide ((E.getD (L.getD k.toNat 0).toNat (0, 0)).2 ∈ m2)))] [(3, iv but), (4, pv b2), (5, pv b4), (9, vr2), (10, iv i), (11, iv k), (12, pv b35), (57, .bool (((decide ((E.getD (L.getD k.toNat 0).toNat (0, 0)).1 = (m2.getD i.toNat 0))) && (!decide ((E.getD (L.getD k.toNat 0).toNat (0, 0)).2 = but))) && (!(decide ((E.getD (L.getD k.toNat 0).toNat (0, 0)).2 ∈ m2)))))] ((0 < Try.prog.cellsOf 3) ∧ (CellOk (On w37) b35 (0 + 0) (.int .i64 ((E.getD (L.getD k.toNat 0).toNat (0, 0)).1))) ∧ TT ∧ TT ∧ ((Try.prog.info? 3).isSome = true ∧ IdxOk vr2 i) ∧ (CellOk (On w37) (hdB vr2) (hdO vr2 + i.toNat * 1) (.int .i64 (m2.getD i.toNat 0))) ∧ TT ∧ TT ∧ ((decide ((E.getD (L.getD k.toNat 0).toNat (0, 0)).1 = (m2.getD i.toNat 0))) = true → 0 < Try.prog.cellsOf 3) ∧ ((decide ((E.getD (L.getD k.toNat 0).toNat (0, 0)).1 = (m2.getD i.toNat 0))) = true → CellOk (On w37) b35 (0 + 1) (.int .i64 ((E.getD (L.getD k.toNat 0).toNat (0, 0)).2))) ∧ ((decide ((E.getD (L.getD k.toNat 0).toNat (0, 0)).1 = (m2.getD i.toNat 0))) = true → True) ∧ ((decide ((E.getD (L.getD k.toNat 0).toNat (0, 0)).1 = (m2.getD i.toNat 0))) = true → True) ∧ TT ∧ TT ∧ (((decide ((E.getD (L.getD k.toNat 0).toNat (0, 0)).1 = (m2.getD i.toNat 0))) && (!decide ((E.getD (L.getD k.toNat 0).toNat (0, 0)).2 = but))) = true → True) ∧ (((decide ((E.getD (L.getD k.toNat 0).toNat (0, 0)).1 = (m2.getD i.toNat 0))) && (!decide ((E.getD (L.getD k.toNat 0).toNat (0, 0)).2 = but))) = true → 0 < Try.prog.cellsOf 3) ∧ (((decide ((E.getD (L.getD k.toNat 0).toNat (0, 0)).1 = (m2.getD i.toNat 0))) && (!decide ((E.getD (L.getD k.toNat 0).toNat (0, 0)).2 = but))) = true → CellOk (On w37) b35 (0 + 1) (.int .i64 ((E.getD (L.getD k.toNat 0).toNat (0, 0)).2))) ∧ (((decide ((E.getD (L.getD k.toNat 0).toNat (0, 0)).1 = (m2.getD i.toNat 0))) && (!decide ((E.getD (L.getD k.toNat 0).toNat (0, 0)).2 = but))) = true → Callable Try.prog 24 ∧ CallOk Try.prog (On w37) 24 [vr2, .int .i64 ((E.getD (L.getD k.toNat 0).toNat (0, 0)).2)].toArray (.bool (decide ((E.getD (L.getD k.toNat 0).toNat (0, 0)).2 ∈ m2)))) ∧ (((decide ((E.getD (L.getD k.toNat 0).toNat (0, 0)).1 = (m2.getD i.toNat 0))) && (!decide ((E.getD (L.getD k.toNat 0).toNat (0, 0)).2 = but))) = true → True) ∧ TT ∧ True) hA H ⟨by decide +kernel, by exact box_cell H 0 rfl 0, tv, tv, ⟨by kernel_rfl, by exact idx_ok (H.out 1 rfl) (by omega) (by omega)⟩, by exact cell_flat (i := i) (H.out 1 rfl) (by omega) (by omega) 0 0, tv, tv, fun _ => by decide +kernel, fun _ => by exact box_cell H 0 rfl 1, fun _ => tv, fun _ => tv, tv, tv, fun _ => tv, fun _ => by decide +kernel, fun _ => by exact box_cell H 0 rfl 1, fun _ => ⟨callable_of, callOk_of fun w hw => by exact in_any vr2 m2 ((E.getD (L.getD k.toNat 0).toNat (0, 0)).2) w (((H.on hw).out 1 rfl))⟩, fun _ => tv, tv, tv⟩ fun a w40 hA H hG => ?_
     refine hK39 _ _ ?_
     refine go_cond hA (.tmp 57) (((decide ((E.getD (L.getD k.toNat 0).toNat (0, 0)).1 = (m2.getD i.toNat 0))) && (!decide ((E.getD (L.getD k.toNat 0).toNat (0, 0)).2 = but))) && (!(decide ((E.getD (L.getD k.toNat 0).toNat (0, 0)).2 ∈ m2)))) (fun hb41 => ?_) (fun hb41 => ?_)
     · have hhb41 := (⟨(⟨of_decide_eq_true ((aT ((aT hb41).1)).1), of_decide_eq_false (nT ((aT ((aT hb41).1)).2))⟩ : _ ∧ _), of_decide_eq_false (nT ((aT hb41).2))⟩ : _ ∧ _)
       refine region_list ?_
       refine q_list 0 3 [(60, iv ((E.getD (L.getD k.toNat 0).toNat (0, 0)).2))] [(3, iv but), (4, pv b2), (5, pv b4), (10, iv i), (11, iv k), (12, pv b35), (58, vr2), (60, iv ((E.getD (L.getD k.toNat 0).toNat (0, 0)).2))] (TT ∧ (0 < Try.prog.cellsOf 3) ∧ (CellOk (On w40) b35 (0 + 1) (.int .i64 ((E.getD (L.getD k.toNat 0).toNat (0, 0)).2))) ∧ True) hA H ⟨tv, by decide +kernel, by exact box_cell H 0 rfl 1, tv⟩ fun a w42 hA H hG => ?_
       refine list_at 3 ?_; refine q_lit 3 61 27 1 #[(0, .tmp 60)] 3 [(0, iv ((E.getD (L.getD k.toNat 0).toNat (0, 0)).2))] [.int .i64 ((E.getD (L.getD k.toNat 0).toNat (0, 0)).2)] [(3, iv but), (4, pv b2), (5, pv b4), (10, iv i), (11, iv k), (12, pv b35), (58, vr2)] hA H fun b43 a w44 H hA hG hge_b43 => ?_
       clear hge_b43
       refine list_at 4 ?_; refine q_push 4 62 (.tmp 58) (.tmp 61) 2 0 b43 1 1 vr2 m2 [(E.getD (L.getD k.toNat 0).toNat (0, 0)).2] [.int .i64 ((E.getD (L.getD k.toNat 0).toNat (0, 0)).2)] [(3, iv but), (4, pv b2), (5, pv b4), (10, iv i), (11, iv k), (12, pv b35)] hA H Try.E27 rfl rfl (by exact (RowRd.single (α := Int) rfl)) rfl (by simp only [List.length_cons, List.length_nil, List.length_append]; omega) (by decide) fun v45 a w46 H hA hG => ?_
       replace H : Fr _ _ _ [.box b35 99 [.int .i64 ((E.getD (L.getD k.toNat 0).toNat (0, 0)).1), .int .i64 ((E.getD (L.getD k.toNat 0).toNat (0, 0)).2)], .row 3 v45 (m2 ++ [(E.getD (L.getD k.toNat 0).toNat (0, 0)).2]), .box b4 29 [vv, vl], .box b2 24 [.int .i64 n, ve]] := H.drop 0
       refine q_list 5 1 [] [(3, iv but), (4, pv b2), (5, pv b4), (9, v45), (10, iv i), (11, iv k), (12, pv b35)] (TT ∧ True) hA H ⟨tv, tv⟩ fun a w47 hA H hG => ?_
       refine list_end ?_
       refine hK38 _ _ ?_
       refine go_seq fun K48 hK48 => ?_
       have hapl : (m2 ++ [(E.getD (L.getD k.toNat 0).toNat (0, 0)).2]).length = m2.length + 1 := by simp
       refine q_draw [(64, iv ((E.getD (L.getD k.toNat 0).toNat (0, 0)).2)), (68, iv ((m2 ++ [(E.getD (L.getD k.toNat 0).toNat (0, 0)).2]).getD i.toNat 0)), (72, iv ((E.getD (L.getD k.toNat 0).toNat (0, 0)).1)), (79, iv ((E.getD (L.getD k.toNat 0).toNat (0, 0)).1)), (80, .bool (decide ((E.getD (L.getD k.toNat 0).toNat (0, 0)).1 ∈ (m2 ++ [(E.getD (L.getD k.toNat 0).toNat (0, 0)).2]))))] [(3, iv but), (4, pv b2), (5, pv b4), (9, v45), (10, iv i), (11, iv k), (12, pv b35), (82, .bool (((decide ((E.getD (L.getD k.toNat 0).toNat (0, 0)).2 = ((m2 ++ [(E.getD (L.getD k.toNat 0).toNat (0, 0)).2]).getD i.toNat 0))) && (!decide ((E.getD (L.getD k.toNat 0).toNat (0, 0)).1 = but))) && (!(decide ((E.getD (L.getD k.toNat 0).toNat (0, 0)).1 ∈ (m2 ++ [(E.getD (L.getD k.toNat 0).toNat (0, 0)).2]))))))] ((0 < Try.prog.cellsOf 3) ∧ (CellOk (On w47) b35 (0 + 1) (.int .i64 ((E.getD (L.getD k.toNat 0).toNat (0, 0)).2))) ∧ TT ∧ TT ∧ ((Try.prog.info? 3).isSome = true ∧ IdxOk v45 i) ∧ (CellOk (On w47) (hdB v45) (hdO v45 + i.toNat * 1) (.int .i64 ((m2 ++ [(E.getD (L.getD k.toNat 0).toNat (0, 0)).2]).getD i.toNat 0))) ∧ TT ∧ TT ∧ ((decide ((E.getD (L.getD k.toNat 0).toNat (0, 0)).2 = ((m2 ++ [(E.getD (L.getD k.toNat 0).toNat (0, 0)).2]).getD i.toNat 0))) = true → 0 < Try.prog.cellsOf 3) ∧ ((decide ((E.getD (L.getD k.toNat 0).toNat (0, 0)).2 = ((m2 ++ [(E.getD (L.getD k.toNat 0).toNat (0, 0)).2]).getD i.toNat 0))) = true → CellOk (On w47) b35 (0 + 0) (.int .i64 ((E.getD (L.getD k.toNat 0).toNat (0, 0)).1))) ∧ ((decide ((E.getD (L.getD k.toNat 0).toNat (0, 0)).2 = ((m2 ++ [(E.getD (L.getD k.toNat 0).toNat (0, 0)).2]).getD i.toNat 0))) = true → True) ∧ ((decide ((E.getD (L.getD k.toNat 0).toNat (0, 0)).2 = ((m2 ++ [(E.getD (L.getD k.toNat 0).toNat (0, 0)).2]).getD i.toNat 0))) = true → True) ∧ TT ∧ TT ∧ (((decide ((E.getD (L.getD k.toNat 0).toNat (0, 0)).2 = ((m2 ++ [(E.getD (L.getD k.toNat 0).toNat (0, 0)).2]).getD i.toNat 0))) && (!decide ((E.getD (L.getD k.toNat 0).toNat (0, 0)).1 = but))) = true → True) ∧ (((decide ((E.getD (L.getD k.toNat 0).toNat (0, 0)).2 = ((m2 ++ [(E.getD (L.getD k.toNat 0).toNat (0, 0)).2]).getD i.toNat 0))) && (!decide ((E.getD (L.getD k.toNat 0).toNat (0, 0)).1 = but))) = true → 0 < Try.prog.cellsOf 3) ∧ (((decide ((E.getD (L.getD k.toNat 0).toNat (0, 0)).2 = ((m2 ++ [(E.getD (L.getD k.toNat 0).toNat (0, 0)).2]).getD i.toNat 0))) && (!decide ((E.getD (L.getD k.toNat 0).toNat (0, 0)).1 = but))) = true → CellOk (On w47) b35 (0 + 0) (.int .i64 ((E.getD (L.getD k.toNat 0).toNat (0, 0)).1))) ∧ (((decide ((E.getD (L.getD k.toNat 0).toNat (0, 0)).2 = ((m2 ++ [(E.getD (L.getD k.toNat 0).toNat (0, 0)).2]).getD i.toNat 0))) && (!decide ((E.getD (L.getD k.toNat 0).toNat (0, 0)).1 = but))) = true → Callable Try.prog 24 ∧ CallOk Try.prog (On w47) 24 [v45, .int .i64 ((E.getD (L.getD k.toNat 0).toNat (0, 0)).1)].toArray (.bool (decide ((E.getD (L.getD k.toNat 0).toNat (0, 0)).1 ∈ (m2 ++ [(E.getD (L.getD k.toNat 0).toNat (0, 0)).2]))))) ∧ (((decide ((E.getD (L.getD k.toNat 0).toNat (0, 0)).2 = ((m2 ++ [(E.getD (L.getD k.toNat 0).toNat (0, 0)).2]).getD i.toNat 0))) && (!decide ((E.getD (L.getD k.toNat 0).toNat (0, 0)).1 = but))) = true → True) ∧ TT ∧ True) hA H ⟨by decide +kernel, by exact box_cell H 0 rfl 1, tv, tv, ⟨by kernel_rfl, by exact idx_ok (H.out 1 rfl) (by omega) (by omega)⟩, by exact cell_flat (i := i) (H.out 1 rfl) (by omega) (by omega) 0 0, tv, tv, fun _ => by decide +kernel, fun _ => by exact box_cell H 0 rfl 0, fun _ => tv, fun _ => tv, tv, tv, fun _ => tv, fun _ => by decide +kernel, fun _ => by exact box_cell H 0 rfl 0, fun _ => ⟨callable_of, callOk_of fun w hw => by exact in_any v45 (m2 ++ [(E.getD (L.getD k.toNat 0).toNat (0, 0)).2]) ((E.getD (L.getD k.toNat 0).toNat (0, 0)).1) w (((H.on hw).out 1 rfl))⟩, fun _ => tv, tv, tv⟩ fun a w49 hA H hG => ?_
       refine hK48 _ _ ?_
       refine go_cond hA (.tmp 82) (((decide ((E.getD (L.getD k.toNat 0).toNat (0, 0)).2 = ((m2 ++ [(E.getD (L.getD k.toNat 0).toNat (0, 0)).2]).getD i.toNat 0))) && (!decide ((E.getD (L.getD k.toNat 0).toNat (0, 0)).1 = but))) && (!(decide ((E.getD (L.getD k.toNat 0).toNat (0, 0)).1 ∈ (m2 ++ [(E.getD (L.getD k.toNat 0).toNat (0, 0)).2]))))) (fun hb50 => ?_) (fun hb50 => ?_)
       · have hhb50 := (⟨(⟨of_decide_eq_true ((aT ((aT hb50).1)).1), of_decide_eq_false (nT ((aT ((aT hb50).1)).2))⟩ : _ ∧ _), of_decide_eq_false (nT ((aT hb50).2))⟩ : _ ∧ _)
         refine region_list ?_
         refine q_list 0 3 [(85, iv ((E.getD (L.getD k.toNat 0).toNat (0, 0)).1))] [(3, iv but), (4, pv b2), (5, pv b4), (10, iv i), (11, iv k), (83, v45), (85, iv ((E.getD (L.getD k.toNat 0).toNat (0, 0)).1))] (TT ∧ (0 < Try.prog.cellsOf 3) ∧ (CellOk (On w49) b35 (0 + 0) (.int .i64 ((E.getD (L.getD k.toNat 0).toNat (0, 0)).1))) ∧ True) hA H ⟨tv, by decide +kernel, by exact box_cell H 0 rfl 0, tv⟩ fun a w51 hA H hG => ?_
         refine list_at 3 ?_; refine q_lit 3 86 27 1 #[(0, .tmp 85)] 3 [(0, iv ((E.getD (L.getD k.toNat 0).toNat (0, 0)).1))] [.int .i64 ((E.getD (L.getD k.toNat 0).toNat (0, 0)).1)] [(3, iv but), (4, pv b2), (5, pv b4), (10, iv i), (11, iv k), (83, v45)] hA H fun b52 a w53 H hA hG hge_b52 => ?_
         clear hge_b52
         refine list_at 4 ?_; refine q_push 4 87 (.tmp 83) (.tmp 86) 2 0 b52 1 1 v45 (m2 ++ [(E.getD (L.getD k.toNat 0).toNat (0, 0)).2]) [(E.getD (L.getD k.toNat 0).toNat (0, 0)).1] [.int .i64 ((E.getD (L.getD k.toNat 0).toNat (0, 0)).1)] [(3, iv but), (4, pv b2), (5, pv b4), (10, iv i), (11, iv k)] hA H Try.E27 rfl rfl (by exact (RowRd.single (α := Int) rfl)) rfl (by simp only [List.length_cons, List.length_nil, List.length_append]; omega) (by decide) fun v54 a w55 H hA hG => ?_
         replace H : Fr _ _ _ [.box b35 99 [.int .i64 ((E.getD (L.getD k.toNat 0).toNat (0, 0)).1), .int .i64 ((E.getD (L.getD k.toNat 0).toNat (0, 0)).2)], .row 3 v54 ((m2 ++ [(E.getD (L.getD k.toNat 0).toNat (0, 0)).2]) ++ [(E.getD (L.getD k.toNat 0).toNat (0, 0)).1]), .box b4 29 [vv, vl], .box b2 24 [.int .i64 n, ve]] := H.drop 0
         refine q_list 5 1 [] [(3, iv but), (4, pv b2), (5, pv b4), (9, v54), (10, iv i), (11, iv k)] (TT ∧ True) hA H ⟨tv, tv⟩ fun a w56 hA H hG => ?_
         refine list_end ?_
         refine hK32 _ _ ?_
         refine q_reg [] [(3, iv but), (4, pv b2), (5, pv b4), (9, v54), (10, iv i), (11, iv (k + 1))] (TT ∧ (InR .i64 (k + 1)) ∧ TT ∧ True) hA H ⟨tv, ⟨by omega, by omega⟩, tv, tv⟩ fun a w57 hA H hG => ?_
         replace H := H.drop 0
         refine ⟨(k + 1, v54, (m2 ++ [(E.getD (L.getD k.toNat 0).toNat (0, 0)).2]) ++ [(E.getD (L.getD k.toNat 0).toNat (0, 0)).1]), ⟨env_sub _ hA, ⟨_, H⟩, ?_⟩, ?_⟩
         · (try dsimp only); refine ⟨by omega, by omega, ?_⟩; rw [spRound_snoc k0 (by omega), ← hm2, spStep_b, hb41]; dsimp only [cond_true, cond_false]; rw [hb50]; rfl
         (try dsimp only); omega
       have hhb50 := (aF hb50).imp (fun h => (aF h).imp (fun h => of_decide_eq_false h) (fun h => of_decide_eq_true (nF h))) (fun h => of_decide_eq_true (nF h))
       refine go_skip ?_
       refine hK32 _ _ ?_
       refine q_reg [] [(3, iv but), (4, pv b2), (5, pv b4), (9, v45), (10, iv i), (11, iv (k + 1))] (TT ∧ (InR .i64 (k + 1)) ∧ TT ∧ True) hA H ⟨tv, ⟨by omega, by omega⟩, tv, tv⟩ fun a w58 hA H hG => ?_
       replace H := H.drop 0
       refine ⟨(k + 1, v45, m2 ++ [(E.getD (L.getD k.toNat 0).toNat (0, 0)).2]), ⟨env_sub _ hA, ⟨_, H⟩, ?_⟩, ?_⟩
       · (try dsimp only); refine ⟨by omega, by omega, ?_⟩; rw [spRound_snoc k0 (by omega), ← hm2, spStep_b, hb41]; dsimp only [cond_true, cond_false]; rw [hb50]; rfl
       (try dsimp only); omega
     have hhb41 := (aF hb41).imp (fun h => (aF h).imp (fun h => of_decide_eq_false h) (fun h => of_decide_eq_true (nF h))) (fun h => of_decide_eq_true (nF h))
     refine go_skip ?_
     refine hK38 _ _ ?_
     refine go_seq fun K59 hK59 => ?_
     refine q_draw [(64, iv ((E.getD (L.getD k.toNat 0).toNat (0, 0)).2)), (68, iv (m2.getD i.toNat 0)), (72, iv ((E.getD (L.getD k.toNat 0).toNat (0, 0)).1)), (79, iv ((E.getD (L.getD k.toNat 0).toNat (0, 0)).1)), (80, .bool (decide ((E.getD (L.getD k.toNat 0).toNat (0, 0)).1 ∈ m2)))] [(3, iv but), (4, pv b2), (5, pv b4), (9, vr2), (10, iv i), (11, iv k), (12, pv b35), (82, .bool (((decide ((E.getD (L.getD k.toNat 0).toNat (0, 0)).2 = (m2.getD i.toNat 0))) && (!decide ((E.getD (L.getD k.toNat 0).toNat (0, 0)).1 = but))) && (!(decide ((E.getD (L.getD k.toNat 0).toNat (0, 0)).1 ∈ m2)))))] ((0 < Try.prog.cellsOf 3) ∧ (CellOk (On w40) b35 (0 + 1) (.int .i64 ((E.getD (L.getD k.toNat 0).toNat (0, 0)).2))) ∧ TT ∧ TT ∧ ((Try.prog.info? 3).isSome = true ∧ IdxOk vr2 i) ∧ (CellOk (On w40) (hdB vr2) (hdO vr2 + i.toNat * 1) (.int .i64 (m2.getD i.toNat 0))) ∧ TT ∧ TT ∧ ((decide ((E.getD (L.getD k.toNat 0).toNat (0, 0)).2 = (m2.getD i.toNat 0))) = true → 0 < Try.prog.cellsOf 3) ∧ ((decide ((E.getD (L.getD k.toNat 0).toNat (0, 0)).2 = (m2.getD i.toNat 0))) = true → CellOk (On w40) b35 (0 + 0) (.int .i64 ((E.getD (L.getD k.toNat 0).toNat (0, 0)).1))) ∧ ((decide ((E.getD (L.getD k.toNat 0).toNat (0, 0)).2 = (m2.getD i.toNat 0))) = true → True) ∧ ((decide ((E.getD (L.getD k.toNat 0).toNat (0, 0)).2 = (m2.getD i.toNat 0))) = true → True) ∧ TT ∧ TT ∧ (((decide ((E.getD (L.getD k.toNat 0).toNat (0, 0)).2 = (m2.getD i.toNat 0))) && (!decide ((E.getD (L.getD k.toNat 0).toNat (0, 0)).1 = but))) = true → True) ∧ (((decide ((E.getD (L.getD k.toNat 0).toNat (0, 0)).2 = (m2.getD i.toNat 0))) && (!decide ((E.getD (L.getD k.toNat 0).toNat (0, 0)).1 = but))) = true → 0 < Try.prog.cellsOf 3) ∧ (((decide ((E.getD (L.getD k.toNat 0).toNat (0, 0)).2 = (m2.getD i.toNat 0))) && (!decide ((E.getD (L.getD k.toNat 0).toNat (0, 0)).1 = but))) = true → CellOk (On w40) b35 (0 + 0) (.int .i64 ((E.getD (L.getD k.toNat 0).toNat (0, 0)).1))) ∧ (((decide ((E.getD (L.getD k.toNat 0).toNat (0, 0)).2 = (m2.getD i.toNat 0))) && (!decide ((E.getD (L.getD k.toNat 0).toNat (0, 0)).1 = but))) = true → Callable Try.prog 24 ∧ CallOk Try.prog (On w40) 24 [vr2, .int .i64 ((E.getD (L.getD k.toNat 0).toNat (0, 0)).1)].toArray (.bool (decide ((E.getD (L.getD k.toNat 0).toNat (0, 0)).1 ∈ m2)))) ∧ (((decide ((E.getD (L.getD k.toNat 0).toNat (0, 0)).2 = (m2.getD i.toNat 0))) && (!decide ((E.getD (L.getD k.toNat 0).toNat (0, 0)).1 = but))) = true → True) ∧ TT ∧ True) hA H ⟨by decide +kernel, by exact box_cell H 0 rfl 1, tv, tv, ⟨by kernel_rfl, by exact idx_ok (H.out 1 rfl) (by omega) (by omega)⟩, by exact cell_flat (i := i) (H.out 1 rfl) (by omega) (by omega) 0 0, tv, tv, fun _ => by decide +kernel, fun _ => by exact box_cell H 0 rfl 0, fun _ => tv, fun _ => tv, tv, tv, fun _ => tv, fun _ => by decide +kernel, fun _ => by exact box_cell H 0 rfl 0, fun _ => ⟨callable_of, callOk_of fun w hw => by exact in_any vr2 m2 ((E.getD (L.getD k.toNat 0).toNat (0, 0)).1) w (((H.on hw).out 1 rfl))⟩, fun _ => tv, tv, tv⟩ fun a w60 hA H hG => ?_
     refine hK59 _ _ ?_
     refine go_cond hA (.tmp 82) (((decide ((E.getD (L.getD k.toNat 0).toNat (0, 0)).2 = (m2.getD i.toNat 0))) && (!decide ((E.getD (L.getD k.toNat 0).toNat (0, 0)).1 = but))) && (!(decide ((E.getD (L.getD k.toNat 0).toNat (0, 0)).1 ∈ m2)))) (fun hb61 => ?_) (fun hb61 => ?_)
     · have hhb61 := (⟨(⟨of_decide_eq_true ((aT ((aT hb61).1)).1), of_decide_eq_false (nT ((aT ((aT hb61).1)).2))⟩ : _ ∧ _), of_decide_eq_false (nT ((aT hb61).2))⟩ : _ ∧ _)
       refine region_list ?_
       refine q_list 0 3 [(85, iv ((E.getD (L.getD k.toNat 0).toNat (0, 0)).1))] [(3, iv but), (4, pv b2), (5, pv b4), (10, iv i), (11, iv k), (83, vr2), (85, iv ((E.getD (L.getD k.toNat 0).toNat (0, 0)).1))] (TT ∧ (0 < Try.prog.cellsOf 3) ∧ (CellOk (On w60) b35 (0 + 0) (.int .i64 ((E.getD (L.getD k.toNat 0).toNat (0, 0)).1))) ∧ True) hA H ⟨tv, by decide +kernel, by exact box_cell H 0 rfl 0, tv⟩ fun a w62 hA H hG => ?_
       refine list_at 3 ?_; refine q_lit 3 86 27 1 #[(0, .tmp 85)] 3 [(0, iv ((E.getD (L.getD k.toNat 0).toNat (0, 0)).1))] [.int .i64 ((E.getD (L.getD k.toNat 0).toNat (0, 0)).1)] [(3, iv but), (4, pv b2), (5, pv b4), (10, iv i), (11, iv k), (83, vr2)] hA H fun b63 a w64 H hA hG hge_b63 => ?_
       clear hge_b63
       refine list_at 4 ?_; refine q_push 4 87 (.tmp 83) (.tmp 86) 2 0 b63 1 1 vr2 m2 [(E.getD (L.getD k.toNat 0).toNat (0, 0)).1] [.int .i64 ((E.getD (L.getD k.toNat 0).toNat (0, 0)).1)] [(3, iv but), (4, pv b2), (5, pv b4), (10, iv i), (11, iv k)] hA H Try.E27 rfl rfl (by exact (RowRd.single (α := Int) rfl)) rfl (by simp only [List.length_cons, List.length_nil, List.length_append]; omega) (by decide) fun v65 a w66 H hA hG => ?_
       replace H : Fr _ _ _ [.box b35 99 [.int .i64 ((E.getD (L.getD k.toNat 0).toNat (0, 0)).1), .int .i64 ((E.getD (L.getD k.toNat 0).toNat (0, 0)).2)], .row 3 v65 (m2 ++ [(E.getD (L.getD k.toNat 0).toNat (0, 0)).1]), .box b4 29 [vv, vl], .box b2 24 [.int .i64 n, ve]] := H.drop 0
       refine q_list 5 1 [] [(3, iv but), (4, pv b2), (5, pv b4), (9, v65), (10, iv i), (11, iv k)] (TT ∧ True) hA H ⟨tv, tv⟩ fun a w67 hA H hG => ?_
       refine list_end ?_
       refine hK32 _ _ ?_
       refine q_reg [] [(3, iv but), (4, pv b2), (5, pv b4), (9, v65), (10, iv i), (11, iv (k + 1))] (TT ∧ (InR .i64 (k + 1)) ∧ TT ∧ True) hA H ⟨tv, ⟨by omega, by omega⟩, tv, tv⟩ fun a w68 hA H hG => ?_
       replace H := H.drop 0
       refine ⟨(k + 1, v65, m2 ++ [(E.getD (L.getD k.toNat 0).toNat (0, 0)).1]), ⟨env_sub _ hA, ⟨_, H⟩, ?_⟩, ?_⟩
       · (try dsimp only); refine ⟨by omega, by omega, ?_⟩; rw [spRound_snoc k0 (by omega), ← hm2, spStep_b, hb41]; dsimp only [cond_true, cond_false]; rw [hb61]; rfl
       (try dsimp only); omega
     have hhb61 := (aF hb61).imp (fun h => (aF h).imp (fun h => of_decide_eq_false h) (fun h => of_decide_eq_true (nF h))) (fun h => of_decide_eq_true (nF h))
     refine go_skip ?_
     refine hK32 _ _ ?_
     refine q_reg [] [(3, iv but), (4, pv b2), (5, pv b4), (9, vr2), (10, iv i), (11, iv (k + 1))] (TT ∧ (InR .i64 (k + 1)) ∧ TT ∧ True) hA H ⟨tv, ⟨by omega, by omega⟩, tv, tv⟩ fun a w69 hA H hG => ?_
     replace H := H.drop 0
     refine ⟨(k + 1, vr2, m2), ⟨env_sub _ hA, ⟨_, H⟩, ?_⟩, ?_⟩
     · (try dsimp only); refine ⟨by omega, by omega, ?_⟩; rw [spRound_snoc k0 (by omega), ← hm2, spStep_b, hb41]; dsimp only [cond_true, cond_false]; rw [hb61]; rfl
     (try dsimp only); omega
   have hhb31 := of_decide_eq_false hb31
   refine go_exit 2 ?_
   refine hK23 _ _ ?_
   refine q_reg [] [(3, iv but), (4, pv b2), (5, pv b4), (9, vr2), (10, iv (i + 1))] (TT ∧ (InR .i64 (i + 1)) ∧ TT ∧ True) hA H ⟨tv, ⟨by omega, by omega⟩, tv, tv⟩ fun a w70 hA H hG => ?_
   refine ⟨(i + 1, vr2, m2), ⟨env_sub _ hA, ⟨_, H⟩, ?_⟩, ?_⟩
   · (try dsimp only); exact ⟨by omega, by obtain ⟨_, r9, e9⟩ := hr2; rw [e9, List.length_append]; omega, hsp2, by rw [List.take_of_length_le (by omega)] at hm2; rw [hm2, ← spF_round h0 (by omega) (by omega)]; exact hsf⟩
   (try dsimp only); omega
 have hhb22 := of_decide_eq_false hb22
 refine go_exit 0 ?_
 refine hK14 _ _ ?_
 refine go_seq fun K71 hK71 => ?_
 refine q_reg [] [(8, vr)] (TT ∧ TT ∧ True) hA H ⟨tv, tv, tv⟩ fun a w72 hA H hG => ?_
 refine hK71 _ _ ?_
 refine go_ret_ ?_
 refine ret_one 8 vr hA ?_
 have ho := (H.give 0 rfl)
 rw [spF_end (by omega)] at hsf; rw [hsf] at ho; exact ⟨_, rfl, ho, H.below⟩
theorem apart_any (n : Int) (ve : Value) (E : List (Int × Int)) (vv vl : Value) (V L : List Int) (v e f : Int) (w : World) (hn : -9223372036854775808 ≤ n ∧ n ≤ 9223372036854775807) (hE : Rd (· < w.heap.size) w ve E) (hV : Rd (· < w.heap.size) w vv V) (hL : Rd (· < w.heap.size) w vl L) (hpt : partE n E V L = 0) (he : e ∈ L) (hf : f ∈ L) :
 Calls Try.prog 106 [.agg #[.int .i64 n, ve], .agg #[vv, vl], .int .i64 v, .int .i64 e, .int .i64 f].toArray w (Ans (.bool (apartB E L v e f)) w) := by
 obtain ⟨hp1, hp2, hp3, hp4⟩ := partE_0 hpt
 have hr9 := rightE_0 hp1
 have he9 := (rises_iff.1 hp3).2 _ he
 have hf9 := (rises_iff.1 hp3).2 _ hf
 refine enter Try.f106 73 Try.func106 fun a hA => ?_
 replace hA := env_sub [(0, .agg #[.int .i64 n, ve]), (1, .agg #[vv, vl]), (2, iv v), (3, iv e), (4, iv f)] hA
 have H := Fr.start (org w)
 refine go_seq fun K1 hK1 => ?_
 refine region_list ?_
 refine list_at 0 ?_; refine q_box 0 5 24 (.tmp 0) (.agg #[.int .i64 n, ve]) [.int .i64 n, ve] [(1, .agg #[vv, vl]), (2, iv v), (3, iv e), (4, iv f)] hA H fun b2 a w3 H hA hG hge_b2 => ?_
 clear hge_b2
 refine list_at 1 ?_; refine q_box 1 6 29 (.tmp 1) (.agg #[vv, vl]) [vv, vl] [(2, iv v), (3, iv e), (4, iv f), (5, pv b2)] hA H fun b4 a w5 H hA hG hge_b4 => ?_
 clear hge_b4
 refine q_list 2 1 [] [(2, iv v), (3, iv e), (4, iv f), (5, pv b2), (6, pv b4)] (TT ∧ True) hA H ⟨tv, tv⟩ fun a w6 hA H hG => ?_
 refine list_end ?_
 refine hK1 _ _ ?_
 refine go_seq fun K7 hK7 => ?_
 have H0 := H
 have hM0 := H0.keeps none (.inl rfl)
 refine region_mix (But w6 none) [0, 1, 2, 3, 4, 5, 6, 7, 8, 9, 10, 11, 12] 14 ?_
 replace H := H.drawn; have hD := But.drew w6 none
 generalize ({ w6 with drawn := w6.drawn + 1 } : World) = w8 at H hD ⊢
 refine m_take (n := 4) [0, 1, 2, 3, 4, 5, 6, 7, 8, 9] #[true, true, true, true, true, true, true, true, true, true, false, false, false, false] [(16, ve), (19, .agg #[.int .i64 ((E.getD e.toNat (0, 0)).1), .int .i64 ((E.getD e.toNat (0, 0)).2)]), (21, ve), (24, .agg #[.int .i64 ((E.getD f.toNat (0, 0)).1), .int .i64 ((E.getD f.toNat (0, 0)).2)])] [(2, iv v), (3, iv e), (4, iv f), (5, pv b2), (6, pv b4), (19, .agg #[.int .i64 ((E.getD e.toNat (0, 0)).1), .int .i64 ((E.getD e.toNat (0, 0)).2)]), (24, .agg #[.int .i64 ((E.getD f.toNat (0, 0)).1), .int .i64 ((E.getD f.toNat (0, 0)).2)])] ((0 < Try.prog.cellsOf 22) ∧ (CellOk (But w6 none) b2 (0 + 1) (ve)) ∧ TT ∧ ((Try.prog.info? 99).isSome = true ∧ IdxOk ve e) ∧ ((Try.prog.info? 99).isSome = true ∧ RowOk (But w6 none) (hdB ve) (hdO ve + e.toNat * 2) (Try.prog.cellsOf 99) #[.int .i64 ((E.getD e.toNat (0, 0)).1), .int .i64 ((E.getD e.toNat (0, 0)).2)]) ∧ (0 < Try.prog.cellsOf 22) ∧ (CellOk (But w6 none) b2 (0 + 1) (ve)) ∧ TT ∧ ((Try.prog.info? 99).isSome = true ∧ IdxOk ve f) ∧ ((Try.prog.info? 99).isSome = true ∧ RowOk (But w6 none) (hdB ve) (hdO ve + f.toNat * 2) (Try.prog.cellsOf 99) #[.int .i64 ((E.getD f.toNat (0, 0)).1), .int .i64 ((E.getD f.toNat (0, 0)).2)]) ∧ True) hA hD ⟨by decide +kernel, by exact box_cellC (box_atC H0 none 1 rfl (fun e => by cases e)) 1, tv, ⟨by kernel_rfl, by exact idx_ok (H0.argT hE) (by omega) (by omega)⟩, ⟨by kernel_rfl, by exact row_flatC hM0 (i := e) (H0.argT hE) (by omega) (by omega) (0, 0)⟩, by decide +kernel, by exact box_cellC (box_atC H0 none 1 rfl (fun e => by cases e)) 1, tv, ⟨by kernel_rfl, by exact idx_ok (H0.argT hE) (by omega) (by omega)⟩, ⟨by kernel_rfl, by exact row_flatC hM0 (i := f) (H0.argT hE) (by omega) (by omega) (0, 0)⟩, tv⟩ fun a hA => ?_
 refine mix_gen fun M hM => ?_
 have hM18 : ∀ (a : Act) (w23 : World) (S : Stab) (b9 : Nat) (hge_b9 : w6.heap.size ≤ b9) (b13 : Nat) (hge_b13 : w6.heap.size ≤ b13), EnvOk 73 a (keepEnv [(2, iv v), (3, iv e), (4, iv f), (5, pv b2), (6, pv b4), (11, pv b9), (12, pv b13), (24, .agg #[.int .i64 ((E.getD f.toNat (0, 0)).1), .int .i64 ((E.getD f.toNat (0, 0)).2)])]) → Fr (org w) w23 S [.box b13 99 [.int .i64 0, .int .i64 0], .box b9 99 [.int .i64 ((E.getD e.toNat (0, 0)).1), .int .i64 ((E.getD e.toNat (0, 0)).2)], .box b4 29 [vv, vl], .box b2 24 [.int .i64 n, ve]] → But w6 none w23 → M 1 #[true, true, true, true, true, true, true, true, true, true, true, true, true, false] a w23 := by
   intro a w23 S b9 hge_b9 b13 hge_b13 hA H hD
   refine (hM _ _ _ _).2 ?_
   refine m_one 13 ?_; refine q_store 13 99 (.tmp 12) (.tmp 24) 0 b13 (0) 99 [.int .i64 0, .int .i64 0] [.int .i64 ((E.getD f.toNat (0, 0)).1), .int .i64 ((E.getD f.toNat (0, 0)).2)] [.int .i64 ((E.getD f.toNat (0, 0)).1), .int .i64 ((E.getD f.toNat (0, 0)).2)] (.agg #[.int .i64 ((E.getD f.toNat (0, 0)).1), .int .i64 ((E.getD f.toNat (0, 0)).2)]) [(2, iv v), (3, iv e), (4, iv f), (5, pv b2), (6, pv b4), (11, pv b9), (12, pv b13)] hA H rfl rfl (Nat.le_of_ble_eq_true (by kernel_rfl)) rfl (fun v hv => by simp only [List.mem_cons, List.not_mem_nil, or_false] at hv; rcases hv with rfl | rfl; exact rfl; exact rfl) fun a w24 H hA hG => ?_
   replace H : Fr _ _ _ [.box b13 99 [.int .i64 ((E.getD f.toNat (0, 0)).1), .int .i64 ((E.getD f.toNat (0, 0)).2)], .box b9 99 [.int .i64 ((E.getD e.toNat (0, 0)).1), .int .i64 ((E.getD e.toNat (0, 0)).2)], .box b4 29 [vv, vl], .box b2 24 [.int .i64 n, ve]] := H
   refine ⟨fun h => absurd h (by decide), ?_⟩
   refine m_end ?_
   refine hK7 _ _ ?_
   refine go_seq fun K25 hK25 => ?_
   refine go_seq fun K26 hK26 => ?_
   refine q_reg [] [(2, iv v), (5, pv b2), (6, pv b4), (11, pv b9), (12, pv b13), (27, .bool (decide (e = f)))] (TT ∧ TT ∧ TT ∧ True) hA H ⟨tv, tv, tv, tv⟩ fun a w27 hA H hG => ?_
   refine hK26 _ _ ?_
   refine go_cond hA (.tmp 27) (decide (e = f)) (fun hb28 => ?_) (fun hb28 => ?_)
   · have hhb28 := of_decide_eq_true hb28
     refine go_seq fun K29 hK29 => ?_
     refine q_reg [] [(10, .bool false)] (TT ∧ True) hA H ⟨tv, tv⟩ fun a w30 hA H hG => ?_
     refine hK29 _ _ ?_
     refine go_ret_ ?_
     refine ret_one 10 (.bool false) hA ?_
     exact ans_b' (by unfold apartB; rw [if_pos hhb28]) H.below
   have hhb28 := of_decide_eq_false hb28
   refine go_skip ?_
   refine hK25 _ _ ?_
   refine go_seq fun K31 hK31 => ?_
   refine go_seq fun K32 hK32 => ?_
   refine q_reg [(29, iv ((E.getD e.toNat (0, 0)).1)), (34, iv ((E.getD e.toNat (0, 0)).2)), (40, iv ((E.getD f.toNat (0, 0)).1)), (45, iv ((E.getD f.toNat (0, 0)).2))] [(2, iv v), (5, pv b2), (6, pv b4), (11, pv b9), (12, pv b13), (49, .bool (((decide ((E.getD e.toNat (0, 0)).1 = v)) && (decide ((E.getD e.toNat (0, 0)).2 = v))) || ((decide ((E.getD f.toNat (0, 0)).1 = v)) && (decide ((E.getD f.toNat (0, 0)).2 = v)))))] ((0 < Try.prog.cellsOf 3) ∧ (CellOk (On w27) b9 (0 + 0) (.int .i64 ((E.getD e.toNat (0, 0)).1))) ∧ TT ∧ TT ∧ TT ∧ ((decide ((E.getD e.toNat (0, 0)).1 = v)) = true → 0 < Try.prog.cellsOf 3) ∧ ((decide ((E.getD e.toNat (0, 0)).1 = v)) = true → CellOk (On w27) b9 (0 + 1) (.int .i64 ((E.getD e.toNat (0, 0)).2))) ∧ ((decide ((E.getD e.toNat (0, 0)).1 = v)) = true → True) ∧ ((decide ((E.getD e.toNat (0, 0)).1 = v)) = true → True) ∧ TT ∧ TT ∧ (((decide ((E.getD e.toNat (0, 0)).1 = v)) && (decide ((E.getD e.toNat (0, 0)).2 = v))) = false → 0 < Try.prog.cellsOf 3) ∧ (((decide ((E.getD e.toNat (0, 0)).1 = v)) && (decide ((E.getD e.toNat (0, 0)).2 = v))) = false → CellOk (On w27) b13 (0 + 0) (.int .i64 ((E.getD f.toNat (0, 0)).1))) ∧ (((decide ((E.getD e.toNat (0, 0)).1 = v)) && (decide ((E.getD e.toNat (0, 0)).2 = v))) = false → True) ∧ (((decide ((E.getD e.toNat (0, 0)).1 = v)) && (decide ((E.getD e.toNat (0, 0)).2 = v))) = false → True) ∧ (((decide ((E.getD e.toNat (0, 0)).1 = v)) && (decide ((E.getD e.toNat (0, 0)).2 = v))) = false → True) ∧ (((decide ((E.getD e.toNat (0, 0)).1 = v)) && (decide ((E.getD e.toNat (0, 0)).2 = v))) = false → (decide ((E.getD f.toNat (0, 0)).1 = v)) = true → 0 < Try.prog.cellsOf 3) ∧ (((decide ((E.getD e.toNat (0, 0)).1 = v)) && (decide ((E.getD e.toNat (0, 0)).2 = v))) = false → (decide ((E.getD f.toNat (0, 0)).1 = v)) = true → CellOk (On w27) b13 (0 + 1) (.int .i64 ((E.getD f.toNat (0, 0)).2))) ∧ (((decide ((E.getD e.toNat (0, 0)).1 = v)) && (decide ((E.getD e.toNat (0, 0)).2 = v))) = false → (decide ((E.getD f.toNat (0, 0)).1 = v)) = true → True) ∧ (((decide ((E.getD e.toNat (0, 0)).1 = v)) && (decide ((E.getD e.toNat (0, 0)).2 = v))) = false → (decide ((E.getD f.toNat (0, 0)).1 = v)) = true → True) ∧ (((decide ((E.getD e.toNat (0, 0)).1 = v)) && (decide ((E.getD e.toNat (0, 0)).2 = v))) = false → True) ∧ TT ∧ True) hA H ⟨by decide +kernel, by exact box_cell H 1 rfl 0, tv, tv, tv, fun _ => by decide +kernel, fun _ => by exact box_cell H 1 rfl 1, fun _ => tv, fun _ => tv, tv, tv, fun _ => by decide +kernel, fun _ => by exact box_cell H 0 rfl 0, fun _ => tv, fun _ => tv, fun _ => tv, fun _ _ => by decide +kernel, fun _ _ => by exact box_cell H 0 rfl 1, fun _ _ => tv, fun _ _ => tv, fun _ => tv, tv, tv⟩ fun a w33 hA H hG => ?_
   refine hK32 _ _ ?_
   refine go_cond hA (.tmp 49) (((decide ((E.getD e.toNat (0, 0)).1 = v)) && (decide ((E.getD e.toNat (0, 0)).2 = v))) || ((decide ((E.getD f.toNat (0, 0)).1 = v)) && (decide ((E.getD f.toNat (0, 0)).2 = v)))) (fun hb34 => ?_) (fun hb34 => ?_)
   · have hhb34 := (oT hb34).imp (fun h => (⟨of_decide_eq_true ((aT h).1), of_decide_eq_true ((aT h).2)⟩ : _ ∧ _)) (fun h => (⟨of_decide_eq_true ((aT h).1), of_decide_eq_true ((aT h).2)⟩ : _ ∧ _))
     refine go_seq fun K35 hK35 => ?_
     refine q_reg [] [(10, .bool true)] (TT ∧ True) hA H ⟨tv, tv⟩ fun a w36 hA H hG => ?_
     refine hK35 _ _ ?_
     refine go_ret_ ?_
     refine ret_one 10 (.bool true) hA ?_
     exact ans_b' (by unfold apartB eA eB; rw [if_neg hhb28, if_pos (by have := hhb34; omega)]) H.below
   have hhb34 := (⟨(aF ((oF hb34).1)).imp (fun h => of_decide_eq_false h) (fun h => of_decide_eq_false h), (aF ((oF hb34).2)).imp (fun h => of_decide_eq_false h) (fun h => of_decide_eq_false h)⟩ : _ ∧ _)
   refine go_skip ?_
   refine hK31 _ _ ?_
   refine go_seq fun K37 hK37 => ?_
   refine q_draw [(51, iv ((E.getD e.toNat (0, 0)).1)), (53, iv ((E.getD f.toNat (0, 0)).1))] [(2, iv v), (5, pv b2), (6, pv b4), (11, pv b9), (12, pv b13), (13, iv ((E.getD e.toNat (0, 0)).1)), (14, iv ((E.getD f.toNat (0, 0)).1))] ((0 < Try.prog.cellsOf 3) ∧ (CellOk (On w33) b9 (0 + 0) (.int .i64 ((E.getD e.toNat (0, 0)).1))) ∧ (0 < Try.prog.cellsOf 3) ∧ (CellOk (On w33) b13 (0 + 0) (.int .i64 ((E.getD f.toNat (0, 0)).1))) ∧ TT ∧ TT ∧ True) hA H ⟨by decide +kernel, by exact box_cell H 1 rfl 0, by decide +kernel, by exact box_cell H 0 rfl 0, tv, tv, tv⟩ fun a w38 hA H hG => ?_
   refine hK37 _ _ ?_
   refine go_seq fun K39 hK39 => ?_
   refine go_seq fun K40 hK40 => ?_
   refine q_reg [] [(2, iv v), (5, pv b2), (6, pv b4), (11, pv b9), (12, pv b13), (13, iv ((E.getD e.toNat (0, 0)).1)), (14, iv ((E.getD f.toNat (0, 0)).1)), (56, .bool (decide ((E.getD e.toNat (0, 0)).1 = v)))] (TT ∧ TT ∧ TT ∧ True) hA H ⟨tv, tv, tv, tv⟩ fun a w41 hA H hG => ?_
   refine hK40 _ _ ?_
   refine go_cond hA (.tmp 56) (decide ((E.getD e.toNat (0, 0)).1 = v)) (fun hb42 => ?_) (fun hb42 => ?_)
   · have hhb42 := of_decide_eq_true hb42
     refine q_reg [(58, iv ((E.getD e.toNat (0, 0)).2))] [(2, iv v), (5, pv b2), (6, pv b4), (12, pv b13), (13, iv ((E.getD e.toNat (0, 0)).2)), (14, iv ((E.getD f.toNat (0, 0)).1))] ((0 < Try.prog.cellsOf 3) ∧ (CellOk (On w41) b9 (0 + 1) (.int .i64 ((E.getD e.toNat (0, 0)).2))) ∧ TT ∧ True) hA H ⟨by decide +kernel, by exact box_cell H 1 rfl 1, tv, tv⟩ fun a w43 hA H hG => ?_
     refine hK39 _ _ ?_
     refine go_seq fun K44 hK44 => ?_
     refine go_seq fun K45 hK45 => ?_
     refine q_reg [] [(2, iv v), (5, pv b2), (6, pv b4), (12, pv b13), (13, iv ((E.getD e.toNat (0, 0)).2)), (14, iv ((E.getD f.toNat (0, 0)).1)), (61, .bool (decide ((E.getD f.toNat (0, 0)).1 = v)))] (TT ∧ TT ∧ TT ∧ True) hA H ⟨tv, tv, tv, tv⟩ fun a w46 hA H hG => ?_
     refine hK45 _ _ ?_
     refine go_cond hA (.tmp 61) (decide ((E.getD f.toNat (0, 0)).1 = v)) (fun hb47 => ?_) (fun hb47 => ?_)
     · have hhb47 := of_decide_eq_true hb47
       refine q_reg [(63, iv ((E.getD f.toNat (0, 0)).2))] [(2, iv v), (5, pv b2), (6, pv b4), (13, iv ((E.getD e.toNat (0, 0)).2)), (14, iv ((E.getD f.toNat (0, 0)).2))] ((0 < Try.prog.cellsOf 3) ∧ (CellOk (On w46) b13 (0 + 1) (.int .i64 ((E.getD f.toNat (0, 0)).2))) ∧ TT ∧ True) hA H ⟨by decide +kernel, by exact box_cell H 0 rfl 1, tv, tv⟩ fun a w48 hA H hG => ?_
       refine hK44 _ _ ?_
       refine go_seq fun K49 hK49 => ?_
       refine region_list ?_
       refine q_list 0 3 [(64, .agg #[.int .i64 n, ve]), (65, .agg #[vv, vl])] [(2, iv v), (14, iv ((E.getD f.toNat (0, 0)).2)), (64, .agg #[.int .i64 n, ve]), (65, .agg #[vv, vl]), (66, iv ((E.getD e.toNat (0, 0)).2))] (((Try.prog.info? 24).isSome = true ∧ RowOk (On w48) b2 (0) (Try.prog.cellsOf 24) #[.int .i64 n, ve]) ∧ ((Try.prog.info? 29).isSome = true ∧ RowOk (On w48) b4 (0) (Try.prog.cellsOf 29) #[vv, vl]) ∧ TT ∧ True) hA H ⟨⟨by kernel_rfl, by exact box_row H 3 rfl 0 2⟩, ⟨by kernel_rfl, by exact box_row H 2 rfl 0 2⟩, tv, tv⟩ fun a w50 hA H hG => ?_
       refine list_at 3 ?_; refine q_lit 3 67 27 1 #[(0, .tmp 66)] 3 [(0, iv ((E.getD e.toNat (0, 0)).2))] [.int .i64 ((E.getD e.toNat (0, 0)).2)] [(2, iv v), (14, iv ((E.getD f.toNat (0, 0)).2)), (64, .agg #[.int .i64 n, ve]), (65, .agg #[vv, vl])] hA H fun b51 a w52 H hA hG hge_b51 => ?_
       clear hge_b51
       refine q_list 4 1 [] [(14, iv ((E.getD f.toNat (0, 0)).2)), (64, .agg #[.int .i64 n, ve]), (65, .agg #[vv, vl]), (67, (.slice (some ⟨b51, 0, none⟩) 1 1)), (68, iv v)] (TT ∧ True) hA H ⟨tv, tv⟩ fun a w53 hA H hG => ?_
       refine list_at 5 ?_; refine q_call 5 69 131 #[.tmp 64, .tmp 65, .tmp 67, .tmp 68] #[24, 29, 27, 3] [.agg #[.int .i64 n, ve], .agg #[vv, vl], (.slice (some ⟨b51, 0, none⟩) 1 1), .int .i64 v] (fun S v_ w' => Rd S w' v_ (spread E L ((E.getD e.toNat (0, 0)).2) v)) [(14, iv ((E.getD f.toNat (0, 0)).2))] hA H (by exact spread_any n ve E vv vl V L (.slice (some ⟨b51, 0, none⟩) 1 1) ((E.getD e.toNat (0, 0)).2) v H.at (by omega) ((H.arg hE)) ((H.arg hV)) ((H.arg hL)) ((H.lit 0 rfl (by exact (RowRd.single (α := Int) (a := (E.getD e.toNat (0, 0)).2) (by exact rfl))) rfl (by decide))) hpt (by omega) (by first | exact mem_endsL.2 ⟨_, he, .inl rfl⟩ | exact mem_endsL.2 ⟨_, he, .inr rfl⟩)) fun v54 a w55 S hR56 H hA hG => ?_
       replace H := H.ro hR56
       refine q_list 6 4 [(71, .bool (decide ((E.getD f.toNat (0, 0)).2 ∈ (spread E L ((E.getD e.toNat (0, 0)).2) v))))] [(10, .bool (!(decide ((E.getD f.toNat (0, 0)).2 ∈ (spread E L ((E.getD e.toNat (0, 0)).2) v)))))] (TT ∧ (Callable Try.prog 24 ∧ CallOk Try.prog (On w55) 24 [v54, .int .i64 ((E.getD f.toNat (0, 0)).2)].toArray (.bool (decide ((E.getD f.toNat (0, 0)).2 ∈ (spread E L ((E.getD e.toNat (0, 0)).2) v))))) ∧ TT ∧ TT ∧ True) hA H ⟨tv, ⟨callable_of, callOk_of fun w hw => by exact in_any v54 (spread E L ((E.getD e.toNat (0, 0)).2) v) ((E.getD f.toNat (0, 0)).2) w (((H.on hw).get 0 rfl))⟩, tv, tv, tv⟩ fun a w58 hA H hG => ?_
       refine list_end ?_
       refine hK49 _ _ ?_
       refine go_ret_ ?_
       refine ret_one 10 (.bool (!(decide ((E.getD f.toNat (0, 0)).2 ∈ (spread E L ((E.getD e.toNat (0, 0)).2) v))))) hA ?_
       exact ans_b' (by unfold apartB otherE eA eB; rw [if_neg hhb28, if_neg (by have := hhb34; omega)]; first | rw [if_pos hhb47, if_pos hhb42] | rw [if_pos hhb47, if_neg hhb42] | rw [if_neg hhb47, if_pos hhb42] | rw [if_neg hhb47, if_neg hhb42]) H.below
     have hhb47 := of_decide_eq_false hb47
     refine go_skip ?_
     refine hK44 _ _ ?_
     refine go_seq fun K59 hK59 => ?_
     refine region_list ?_
     refine q_list 0 3 [(64, .agg #[.int .i64 n, ve]), (65, .agg #[vv, vl])] [(2, iv v), (14, iv ((E.getD f.toNat (0, 0)).1)), (64, .agg #[.int .i64 n, ve]), (65, .agg #[vv, vl]), (66, iv ((E.getD e.toNat (0, 0)).2))] (((Try.prog.info? 24).isSome = true ∧ RowOk (On w46) b2 (0) (Try.prog.cellsOf 24) #[.int .i64 n, ve]) ∧ ((Try.prog.info? 29).isSome = true ∧ RowOk (On w46) b4 (0) (Try.prog.cellsOf 29) #[vv, vl]) ∧ TT ∧ True) hA H ⟨⟨by kernel_rfl, by exact box_row H 3 rfl 0 2⟩, ⟨by kernel_rfl, by exact box_row H 2 rfl 0 2⟩, tv, tv⟩ fun a w60 hA H hG => ?_
     refine list_at 3 ?_; refine q_lit 3 67 27 1 #[(0, .tmp 66)] 3 [(0, iv ((E.getD e.toNat (0, 0)).2))] [.int .i64 ((E.getD e.toNat (0, 0)).2)] [(2, iv v), (14, iv ((E.getD f.toNat (0, 0)).1)), (64, .agg #[.int .i64 n, ve]), (65, .agg #[vv, vl])] hA H fun b61 a w62 H hA hG hge_b61 => ?_
     clear hge_b61
     refine q_list 4 1 [] [(14, iv ((E.getD f.toNat (0, 0)).1)), (64, .agg #[.int .i64 n, ve]), (65, .agg #[vv, vl]), (67, (.slice (some ⟨b61, 0, none⟩) 1 1)), (68, iv v)] (TT ∧ True) hA H ⟨tv, tv⟩ fun a w63 hA H hG => ?_
     refine list_at 5 ?_; refine q_call 5 69 131 #[.tmp 64, .tmp 65, .tmp 67, .tmp 68] #[24, 29, 27, 3] [.agg #[.int .i64 n, ve], .agg #[vv, vl], (.slice (some ⟨b61, 0, none⟩) 1 1), .int .i64 v] (fun S v_ w' => Rd S w' v_ (spread E L ((E.getD e.toNat (0, 0)).2) v)) [(14, iv ((E.getD f.toNat (0, 0)).1))] hA H (by exact spread_any n ve E vv vl V L (.slice (some ⟨b61, 0, none⟩) 1 1) ((E.getD e.toNat (0, 0)).2) v H.at (by omega) ((H.arg hE)) ((H.arg hV)) ((H.arg hL)) ((H.lit 0 rfl (by exact (RowRd.single (α := Int) (a := (E.getD e.toNat (0, 0)).2) (by exact rfl))) rfl (by decide))) hpt (by omega) (by first | exact mem_endsL.2 ⟨_, he, .inl rfl⟩ | exact mem_endsL.2 ⟨_, he, .inr rfl⟩)) fun v64 a w65 S hR66 H hA hG => ?_
     replace H := H.ro hR66
     refine q_list 6 4 [(71, .bool (decide ((E.getD f.toNat (0, 0)).1 ∈ (spread E L ((E.getD e.toNat (0, 0)).2) v))))] [(10, .bool (!(decide ((E.getD f.toNat (0, 0)).1 ∈ (spread E L ((E.getD e.toNat (0, 0)).2) v)))))] (TT ∧ (Callable Try.prog 24 ∧ CallOk Try.prog (On w65) 24 [v64, .int .i64 ((E.getD f.toNat (0, 0)).1)].toArray (.bool (decide ((E.getD f.toNat (0, 0)).1 ∈ (spread E L ((E.getD e.toNat (0, 0)).2) v))))) ∧ TT ∧ TT ∧ True) hA H ⟨tv, ⟨callable_of, callOk_of fun w hw => by exact in_any v64 (spread E L ((E.getD e.toNat (0, 0)).2) v) ((E.getD f.toNat (0, 0)).1) w (((H.on hw).get 0 rfl))⟩, tv, tv, tv⟩ fun a w68 hA H hG => ?_
     refine list_end ?_
     refine hK59 _ _ ?_
     refine go_ret_ ?_
     refine ret_one 10 (.bool (!(decide ((E.getD f.toNat (0, 0)).1 ∈ (spread E L ((E.getD e.toNat (0, 0)).2) v))))) hA ?_
     exact ans_b' (by unfold apartB otherE eA eB; rw [if_neg hhb28, if_neg (by have := hhb34; omega)]; first | rw [if_pos hhb47, if_pos hhb42] | rw [if_pos hhb47, if_neg hhb42] | rw [if_neg hhb47, if_pos hhb42] | rw [if_neg hhb47, if_neg hhb42]) H.below
   have hhb42 := of_decide_eq_false hb42
   refine go_skip ?_
   refine hK39 _ _ ?_
   refine go_seq fun K69 hK69 => ?_
   refine go_seq fun K70 hK70 => ?_
   refine q_reg [] [(2, iv v), (5, pv b2), (6, pv b4), (12, pv b13), (13, iv ((E.getD e.toNat (0, 0)).1)), (14, iv ((E.getD f.toNat (0, 0)).1)), (61, .bool (decide ((E.getD f.toNat (0, 0)).1 = v)))] (TT ∧ TT ∧ TT ∧ True) hA H ⟨tv, tv, tv, tv⟩ fun a w71 hA H hG => ?_
   refine hK70 _ _ ?_
   refine go_cond hA (.tmp 61) (decide ((E.getD f.toNat (0, 0)).1 = v)) (fun hb72 => ?_) (fun hb72 => ?_)
   · have hhb72 := of_decide_eq_true hb72
     refine q_reg [(63, iv ((E.getD f.toNat (0, 0)).2))] [(2, iv v), (5, pv b2), (6, pv b4), (13, iv ((E.getD e.toNat (0, 0)).1)), (14, iv ((E.getD f.toNat (0, 0)).2))] ((0 < Try.prog.cellsOf 3) ∧ (CellOk (On w71) b13 (0 + 1) (.int .i64 ((E.getD f.toNat (0, 0)).2))) ∧ TT ∧ True) hA H ⟨by decide +kernel, by exact box_cell H 0 rfl 1, tv, tv⟩ fun a w73 hA H hG => ?_
     refine hK69 _ _ ?_
     refine go_seq fun K74 hK74 => ?_
     refine region_list ?_
     refine q_list 0 3 [(64, .agg #[.int .i64 n, ve]), (65, .agg #[vv, vl])] [(2, iv v), (14, iv ((E.getD f.toNat (0, 0)).2)), (64, .agg #[.int .i64 n, ve]), (65, .agg #[vv, vl]), (66, iv ((E.getD e.toNat (0, 0)).1))] (((Try.prog.info? 24).isSome = true ∧ RowOk (On w73) b2 (0) (Try.prog.cellsOf 24) #[.int .i64 n, ve]) ∧ ((Try.prog.info? 29).isSome = true ∧ RowOk (On w73) b4 (0) (Try.prog.cellsOf 29) #[vv, vl]) ∧ TT ∧ True) hA H ⟨⟨by kernel_rfl, by exact box_row H 3 rfl 0 2⟩, ⟨by kernel_rfl, by exact box_row H 2 rfl 0 2⟩, tv, tv⟩ fun a w75 hA H hG => ?_
     refine list_at 3 ?_; refine q_lit 3 67 27 1 #[(0, .tmp 66)] 3 [(0, iv ((E.getD e.toNat (0, 0)).1))] [.int .i64 ((E.getD e.toNat (0, 0)).1)] [(2, iv v), (14, iv ((E.getD f.toNat (0, 0)).2)), (64, .agg #[.int .i64 n, ve]), (65, .agg #[vv, vl])] hA H fun b76 a w77 H hA hG hge_b76 => ?_
     clear hge_b76
     refine q_list 4 1 [] [(14, iv ((E.getD f.toNat (0, 0)).2)), (64, .agg #[.int .i64 n, ve]), (65, .agg #[vv, vl]), (67, (.slice (some ⟨b76, 0, none⟩) 1 1)), (68, iv v)] (TT ∧ True) hA H ⟨tv, tv⟩ fun a w78 hA H hG => ?_
     refine list_at 5 ?_; refine q_call 5 69 131 #[.tmp 64, .tmp 65, .tmp 67, .tmp 68] #[24, 29, 27, 3] [.agg #[.int .i64 n, ve], .agg #[vv, vl], (.slice (some ⟨b76, 0, none⟩) 1 1), .int .i64 v] (fun S v_ w' => Rd S w' v_ (spread E L ((E.getD e.toNat (0, 0)).1) v)) [(14, iv ((E.getD f.toNat (0, 0)).2))] hA H (by exact spread_any n ve E vv vl V L (.slice (some ⟨b76, 0, none⟩) 1 1) ((E.getD e.toNat (0, 0)).1) v H.at (by omega) ((H.arg hE)) ((H.arg hV)) ((H.arg hL)) ((H.lit 0 rfl (by exact (RowRd.single (α := Int) (a := (E.getD e.toNat (0, 0)).1) (by exact rfl))) rfl (by decide))) hpt (by omega) (by first | exact mem_endsL.2 ⟨_, he, .inl rfl⟩ | exact mem_endsL.2 ⟨_, he, .inr rfl⟩)) fun v79 a w80 S hR81 H hA hG => ?_
     replace H := H.ro hR81
     refine q_list 6 4 [(71, .bool (decide ((E.getD f.toNat (0, 0)).2 ∈ (spread E L ((E.getD e.toNat (0, 0)).1) v))))] [(10, .bool (!(decide ((E.getD f.toNat (0, 0)).2 ∈ (spread E L ((E.getD e.toNat (0, 0)).1) v)))))] (TT ∧ (Callable Try.prog 24 ∧ CallOk Try.prog (On w80) 24 [v79, .int .i64 ((E.getD f.toNat (0, 0)).2)].toArray (.bool (decide ((E.getD f.toNat (0, 0)).2 ∈ (spread E L ((E.getD e.toNat (0, 0)).1) v))))) ∧ TT ∧ TT ∧ True) hA H ⟨tv, ⟨callable_of, callOk_of fun w hw => by exact in_any v79 (spread E L ((E.getD e.toNat (0, 0)).1) v) ((E.getD f.toNat (0, 0)).2) w (((H.on hw).get 0 rfl))⟩, tv, tv, tv⟩ fun a w83 hA H hG => ?_
     refine list_end ?_
     refine hK74 _ _ ?_
     refine go_ret_ ?_
     refine ret_one 10 (.bool (!(decide ((E.getD f.toNat (0, 0)).2 ∈ (spread E L ((E.getD e.toNat (0, 0)).1) v))))) hA ?_
     exact ans_b' (by unfold apartB otherE eA eB; rw [if_neg hhb28, if_neg (by have := hhb34; omega)]; first | rw [if_pos hhb72, if_pos hhb42] | rw [if_pos hhb72, if_neg hhb42] | rw [if_neg hhb72, if_pos hhb42] | rw [if_neg hhb72, if_neg hhb42]) H.below
   have hhb72 := of_decide_eq_false hb72
   refine go_skip ?_
   refine hK69 _ _ ?_
   refine go_seq fun K84 hK84 => ?_
   refine region_list ?_
   refine q_list 0 3 [(64, .agg #[.int .i64 n, ve]), (65, .agg #[vv, vl])] [(2, iv v), (14, iv ((E.getD f.toNat (0, 0)).1)), (64, .agg #[.int .i64 n, ve]), (65, .agg #[vv, vl]), (66, iv ((E.getD e.toNat (0, 0)).1))] (((Try.prog.info? 24).isSome = true ∧ RowOk (On w71) b2 (0) (Try.prog.cellsOf 24) #[.int .i64 n, ve]) ∧ ((Try.prog.info? 29).isSome = true ∧ RowOk (On w71) b4 (0) (Try.prog.cellsOf 29) #[vv, vl]) ∧ TT ∧ True) hA H ⟨⟨by kernel_rfl, by exact box_row H 3 rfl 0 2⟩, ⟨by kernel_rfl, by exact box_row H 2 rfl 0 2⟩, tv, tv⟩ fun a w85 hA H hG => ?_
   refine list_at 3 ?_; refine q_lit 3 67 27 1 #[(0, .tmp 66)] 3 [(0, iv ((E.getD e.toNat (0, 0)).1))] [.int .i64 ((E.getD e.toNat (0, 0)).1)] [(2, iv v), (14, iv ((E.getD f.toNat (0, 0)).1)), (64, .agg #[.int .i64 n, ve]), (65, .agg #[vv, vl])] hA H fun b86 a w87 H hA hG hge_b86 => ?_
   clear hge_b86
   refine q_list 4 1 [] [(14, iv ((E.getD f.toNat (0, 0)).1)), (64, .agg #[.int .i64 n, ve]), (65, .agg #[vv, vl]), (67, (.slice (some ⟨b86, 0, none⟩) 1 1)), (68, iv v)] (TT ∧ True) hA H ⟨tv, tv⟩ fun a w88 hA H hG => ?_
   refine list_at 5 ?_; refine q_call 5 69 131 #[.tmp 64, .tmp 65, .tmp 67, .tmp 68] #[24, 29, 27, 3] [.agg #[.int .i64 n, ve], .agg #[vv, vl], (.slice (some ⟨b86, 0, none⟩) 1 1), .int .i64 v] (fun S v_ w' => Rd S w' v_ (spread E L ((E.getD e.toNat (0, 0)).1) v)) [(14, iv ((E.getD f.toNat (0, 0)).1))] hA H (by exact spread_any n ve E vv vl V L (.slice (some ⟨b86, 0, none⟩) 1 1) ((E.getD e.toNat (0, 0)).1) v H.at (by omega) ((H.arg hE)) ((H.arg hV)) ((H.arg hL)) ((H.lit 0 rfl (by exact (RowRd.single (α := Int) (a := (E.getD e.toNat (0, 0)).1) (by exact rfl))) rfl (by decide))) hpt (by omega) (by first | exact mem_endsL.2 ⟨_, he, .inl rfl⟩ | exact mem_endsL.2 ⟨_, he, .inr rfl⟩)) fun v89 a w90 S hR91 H hA hG => ?_
   replace H := H.ro hR91
   refine q_list 6 4 [(71, .bool (decide ((E.getD f.toNat (0, 0)).1 ∈ (spread E L ((E.getD e.toNat (0, 0)).1) v))))] [(10, .bool (!(decide ((E.getD f.toNat (0, 0)).1 ∈ (spread E L ((E.getD e.toNat (0, 0)).1) v)))))] (TT ∧ (Callable Try.prog 24 ∧ CallOk Try.prog (On w90) 24 [v89, .int .i64 ((E.getD f.toNat (0, 0)).1)].toArray (.bool (decide ((E.getD f.toNat (0, 0)).1 ∈ (spread E L ((E.getD e.toNat (0, 0)).1) v))))) ∧ TT ∧ TT ∧ True) hA H ⟨tv, ⟨callable_of, callOk_of fun w hw => by exact in_any v89 (spread E L ((E.getD e.toNat (0, 0)).1) v) ((E.getD f.toNat (0, 0)).1) w (((H.on hw).get 0 rfl))⟩, tv, tv, tv⟩ fun a w93 hA H hG => ?_
   refine list_end ?_
   refine hK84 _ _ ?_
   refine go_ret_ ?_
   refine ret_one 10 (.bool (!(decide ((E.getD f.toNat (0, 0)).1 ∈ (spread E L ((E.getD e.toNat (0, 0)).1) v))))) hA ?_
   exact ans_b' (by unfold apartB otherE eA eB; rw [if_neg hhb28, if_neg (by have := hhb34; omega)]; first | rw [if_pos hhb72, if_pos hhb42] | rw [if_pos hhb72, if_neg hhb42] | rw [if_neg hhb72, if_pos hhb42] | rw [if_neg hhb72, if_neg hhb42]) H.below
 have hM19 : ∀ (a : Act) (w94 : World) (S : Stab) (b9 : Nat) (hge_b9 : w6.heap.size ≤ b9) (b13 : Nat) (hge_b13 : w6.heap.size ≤ b13), EnvOk 73 a (keepEnv [(2, iv v), (3, iv e), (4, iv f), (5, pv b2), (6, pv b4), (11, pv b9), (12, pv b13), (19, .agg #[.int .i64 ((E.getD e.toNat (0, 0)).1), .int .i64 ((E.getD e.toNat (0, 0)).2)]), (24, .agg #[.int .i64 ((E.getD f.toNat (0, 0)).1), .int .i64 ((E.getD f.toNat (0, 0)).2)])]) → Fr (org w) w94 S [.box b13 99 [.int .i64 0, .int .i64 0], .box b9 99 [.int .i64 0, .int .i64 0], .box b4 29 [vv, vl], .box b2 24 [.int .i64 n, ve]] → But w6 none w94 → M 2 #[true, true, true, true, true, true, true, true, true, true, true, true, false, false] a w94 := by
   intro a w94 S b9 hge_b9 b13 hge_b13 hA H hD
   refine (hM _ _ _ _).2 ?_
   refine m_one 12 ?_; refine q_store 12 99 (.tmp 11) (.tmp 19) 1 b9 (0) 99 [.int .i64 0, .int .i64 0] [.int .i64 ((E.getD e.toNat (0, 0)).1), .int .i64 ((E.getD e.toNat (0, 0)).2)] [.int .i64 ((E.getD e.toNat (0, 0)).1), .int .i64 ((E.getD e.toNat (0, 0)).2)] (.agg #[.int .i64 ((E.getD e.toNat (0, 0)).1), .int .i64 ((E.getD e.toNat (0, 0)).2)]) [(2, iv v), (3, iv e), (4, iv f), (5, pv b2), (6, pv b4), (11, pv b9), (12, pv b13), (24, .agg #[.int .i64 ((E.getD f.toNat (0, 0)).1), .int .i64 ((E.getD f.toNat (0, 0)).2)])] hA H rfl rfl (Nat.le_of_ble_eq_true (by kernel_rfl)) rfl (fun v hv => by simp only [List.mem_cons, List.not_mem_nil, or_false] at hv; rcases hv with rfl | rfl; exact rfl; exact rfl) fun a w95 H hA hG => ?_
   replace H : Fr _ _ _ [.box b13 99 [.int .i64 0, .int .i64 0], .box b9 99 [.int .i64 ((E.getD e.toNat (0, 0)).1), .int .i64 ((E.getD e.toNat (0, 0)).2)], .box b4 29 [vv, vl], .box b2 24 [.int .i64 n, ve]] := H
   replace hD := hD.grown hG (fun b_ hb_ => .inr (by cases hb_; assumption))
   refine ⟨fun _ => hD, ?_⟩
   exact (hM _ _ _ _).1 (hM18 _ _ _ b9 hge_b9 b13 hge_b13 (env_sub _ hA) H hD)
 have hM20 : ∀ (a : Act) (w96 : World) (S : Stab) (b9 : Nat) (hge_b9 : w6.heap.size ≤ b9), EnvOk 73 a (keepEnv [(2, iv v), (3, iv e), (4, iv f), (5, pv b2), (6, pv b4), (11, pv b9), (19, .agg #[.int .i64 ((E.getD e.toNat (0, 0)).1), .int .i64 ((E.getD e.toNat (0, 0)).2)]), (24, .agg #[.int .i64 ((E.getD f.toNat (0, 0)).1), .int .i64 ((E.getD f.toNat (0, 0)).2)])]) → Fr (org w) w96 S [.box b9 99 [.int .i64 0, .int .i64 0], .box b4 29 [vv, vl], .box b2 24 [.int .i64 n, ve]] → But w6 none w96 → M 3 #[true, true, true, true, true, true, true, true, true, true, true, false, false, false] a w96 := by
   intro a w96 S b9 hge_b9 hA H hD
   refine (hM _ _ _ _).2 ?_
   refine m_one 11 ?_; refine q_alloc 11 12 99 [.int .i64 0, .int .i64 0] [(2, iv v), (3, iv e), (4, iv f), (5, pv b2), (6, pv b4), (11, pv b9), (19, .agg #[.int .i64 ((E.getD e.toNat (0, 0)).1), .int .i64 ((E.getD e.toNat (0, 0)).2)]), (24, .agg #[.int .i64 ((E.getD f.toNat (0, 0)).1), .int .i64 ((E.getD f.toNat (0, 0)).2)])] hA H fun b97 a w98 H hA hG hge_b97 => ?_
   replace hge_b97 := Nat.le_trans hD.1 hge_b97
   replace hD := hD.below hG
   refine ⟨fun _ => hD, ?_⟩
   exact (hM _ _ _ _).1 (hM19 _ _ _ b9 hge_b9 b97 hge_b97 (env_sub _ hA) H hD)
 have hM21 : ∀ (a : Act) (w99 : World) (S : Stab) (b11 : Nat) (hge_b11 : w6.heap.size ≤ b11), EnvOk 73 a (keepEnv [(2, iv v), (3, iv e), (4, iv f), (5, pv b2), (6, pv b4), (12, pv b11), (19, .agg #[.int .i64 ((E.getD e.toNat (0, 0)).1), .int .i64 ((E.getD e.toNat (0, 0)).2)]), (24, .agg #[.int .i64 ((E.getD f.toNat (0, 0)).1), .int .i64 ((E.getD f.toNat (0, 0)).2)])]) → Fr (org w) w99 S [.box b11 99 [.int .i64 0, .int .i64 0], .box b4 29 [vv, vl], .box b2 24 [.int .i64 n, ve]] → But w6 none w99 → M 3 #[true, true, true, true, true, true, true, true, true, true, false, true, false, false] a w99 := by
   intro a w99 S b11 hge_b11 hA H hD
   refine (hM _ _ _ _).2 ?_
   refine m_one 10 ?_; refine q_alloc 10 11 99 [.int .i64 0, .int .i64 0] [(2, iv v), (3, iv e), (4, iv f), (5, pv b2), (6, pv b4), (12, pv b11), (19, .agg #[.int .i64 ((E.getD e.toNat (0, 0)).1), .int .i64 ((E.getD e.toNat (0, 0)).2)]), (24, .agg #[.int .i64 ((E.getD f.toNat (0, 0)).1), .int .i64 ((E.getD f.toNat (0, 0)).2)])] hA H fun b100 a w101 H hA hG hge_b100 => ?_
   replace hge_b100 := Nat.le_trans hD.1 hge_b100
   replace H : Fr _ _ _ [.box b11 99 [.int .i64 0, .int .i64 0], .box b100 99 [.int .i64 0, .int .i64 0], .box b4 29 [vv, vl], .box b2 24 [.int .i64 n, ve]] := H.sink 1 1
   replace hD := hD.below hG
   refine ⟨fun _ => hD, ?_⟩
   exact (hM _ _ _ _).1 (hM19 _ _ _ b100 hge_b100 b11 hge_b11 (env_sub _ hA) H hD)
 have hM22 : ∀ (a : Act) (w102 : World) (S : Stab), EnvOk 73 a (keepEnv [(2, iv v), (3, iv e), (4, iv f), (5, pv b2), (6, pv b4), (19, .agg #[.int .i64 ((E.getD e.toNat (0, 0)).1), .int .i64 ((E.getD e.toNat (0, 0)).2)]), (24, .agg #[.int .i64 ((E.getD f.toNat (0, 0)).1), .int .i64 ((E.getD f.toNat (0, 0)).2)])]) → Fr (org w) w102 S [.box b4 29 [vv, vl], .box b2 24 [.int .i64 n, ve]] → But w6 none w102 → M 4 #[true, true, true, true, true, true, true, true, true, true, false, false, false, false] a w102 := by
   intro a w102 S  hA H hD
   refine (hM _ _ _ _).2 ?_
   refine m_many [10, 11] fun i_ hi_ => ?_
   simp only [List.mem_cons, List.not_mem_nil, or_false] at hi_
   rcases hi_ with rfl | rfl
   · skip
     refine q_alloc 10 11 99 [.int .i64 0, .int .i64 0] [(2, iv v), (3, iv e), (4, iv f), (5, pv b2), (6, pv b4), (19, .agg #[.int .i64 ((E.getD e.toNat (0, 0)).1), .int .i64 ((E.getD e.toNat (0, 0)).2)]), (24, .agg #[.int .i64 ((E.getD f.toNat (0, 0)).1), .int .i64 ((E.getD f.toNat (0, 0)).2)])] hA H fun b103 a w104 H hA hG hge_b103 => ?_
     replace hge_b103 := Nat.le_trans hD.1 hge_b103
     replace hD := hD.below hG
     refine ⟨fun _ => hD, ?_⟩
     exact (hM _ _ _ _).1 (hM20 _ _ _ b103 hge_b103 (env_sub _ hA) H hD)
   skip
   refine q_alloc 11 12 99 [.int .i64 0, .int .i64 0] [(2, iv v), (3, iv e), (4, iv f), (5, pv b2), (6, pv b4), (19, .agg #[.int .i64 ((E.getD e.toNat (0, 0)).1), .int .i64 ((E.getD e.toNat (0, 0)).2)]), (24, .agg #[.int .i64 ((E.getD f.toNat (0, 0)).1), .int .i64 ((E.getD f.toNat (0, 0)).2)])] hA H fun b105 a w106 H hA hG hge_b105 => ?_
   replace hge_b105 := Nat.le_trans hD.1 hge_b105
   replace hD := hD.below hG
   refine ⟨fun _ => hD, ?_⟩
   exact (hM _ _ _ _).1 (hM21 _ _ _ b105 hge_b105 (env_sub _ hA) H hD)
 exact hM22 _ _ _ (env_sub _ hA) H hD
theorem tog_any (n : Int) (ve : Value) (E : List (Int × Int)) (vv vl : Value) (V L : List Int) (e f : Int) (w : World) (hn : -9223372036854775808 ≤ n ∧ n ≤ 9223372036854775807) (hE : Rd (· < w.heap.size) w ve E) (hV : Rd (· < w.heap.size) w vv V) (hL : Rd (· < w.heap.size) w vl L) (hpt : partE n E V L = 0) (he : e ∈ L) (hf : f ∈ L) :
 Calls Try.prog 84 [.agg #[.int .i64 n, ve], .agg #[vv, vl], .int .i64 e, .int .i64 f].toArray w (Ans (.bool (togB E V L e f)) w) := by
 obtain ⟨hp1, hp2, hp3, hp4⟩ := partE_0 hpt
 have hr9 := rightE_0 hp1
 have hv9 := rises_len hp2 (by omega)
 refine enter Try.f84 27 Try.func84 fun a hA => ?_
 replace hA := env_sub [(0, .agg #[.int .i64 n, ve]), (1, .agg #[vv, vl]), (2, iv e), (3, iv f)] hA
 have H := Fr.start (org w)
 refine go_seq fun K1 hK1 => ?_
 refine region_list ?_
 refine list_at 0 ?_; refine q_box 0 4 24 (.tmp 0) (.agg #[.int .i64 n, ve]) [.int .i64 n, ve] [(1, .agg #[vv, vl]), (2, iv e), (3, iv f)] hA H fun b2 a w3 H hA hG hge_b2 => ?_
 clear hge_b2
 refine list_at 1 ?_; refine q_box 1 5 29 (.tmp 1) (.agg #[vv, vl]) [vv, vl] [(2, iv e), (3, iv f), (4, pv b2)] hA H fun b4 a w5 H hA hG hge_b4 => ?_
 clear hge_b4
 refine q_list 2 1 [] [(2, iv e), (3, iv f), (4, pv b2), (5, pv b4)] (TT ∧ True) hA H ⟨tv, tv⟩ fun a w6 hA H hG => ?_
 refine list_end ?_
 refine hK1 _ _ ?_
 refine go_seq fun K7 hK7 => ?_
 refine go_seq fun K8 hK8 => ?_
 refine q_reg [] [(2, iv e), (3, iv f), (4, pv b2), (5, pv b4), (9, iv 0)] (TT ∧ True) hA H ⟨tv, tv⟩ fun a w9 hA H hG => ?_
 refine hK8 _ _ ?_
 refine go_block 0 ?_
 refine go_loop_ (Int) (fun x_ a W => (fun (i : Int) => EnvOk 27 a (keepEnv [(2, iv e), (3, iv f), (4, pv b2), (5, pv b4), (9, iv i)]) ∧ (∃ S, Fr (org w) W S [.box b4 29 [vv, vl], .box b2 24 [.int .i64 n, ve]]) ∧ 0 ≤ i ∧ ∀ j : Nat, (j : Int) < i → apartB E L (V.getD j 0) e f = false) x_) (fun x_ => (fun (i : Int) => ((V.length : Int) - i).toNat) x_) (0) ?_ (fun i a w11 hI => ?_)
 · (try dsimp only); exact ⟨env_sub _ hA, ⟨_, H⟩, by omega, fun j hj => by omega⟩
 obtain ⟨hA, ⟨S, H⟩, h0, hok⟩ := hI
 try dsimp only at h0 hok
 refine go_seq fun K12 hK12 => ?_
 refine go_seq fun K13 hK13 => ?_
 refine q_reg [(12, vv), (13, iv (V.length : Int))] [(2, iv e), (3, iv f), (4, pv b2), (5, pv b4), (9, iv i), (14, .bool (decide (i < (V.length : Int))))] (TT ∧ (0 < Try.prog.cellsOf 27) ∧ (CellOk (On w11) b4 (0 + 0) (vv)) ∧ (LenOk vv (V.length : Int)) ∧ TT ∧ True) hA H ⟨tv, by decide +kernel, by exact box_cell H 0 rfl 0, by exact len_ok (H.arg hV), tv, tv⟩ fun a w14 hA H hG => ?_
 refine hK13 _ _ ?_
 refine go_cond hA (.tmp 14) (decide (i < (V.length : Int))) (fun hb15 => ?_) (fun hb15 => ?_)
 · have hhb15 := of_decide_eq_true hb15
   refine go_skip ?_
   refine hK12 _ _ ?_
   refine go_seq fun K16 hK16 => ?_
   refine go_block 1 ?_
   refine go_seq fun K17 hK17 => ?_
   refine q_draw [(17, .agg #[.int .i64 n, ve]), (18, .agg #[vv, vl]), (20, vv), (23, iv (V.getD i.toNat 0)), (26, .bool (apartB E L (V.getD i.toNat 0) e f))] [(2, iv e), (3, iv f), (4, pv b2), (5, pv b4), (9, iv i), (26, .bool (apartB E L (V.getD i.toNat 0) e f))] (((Try.prog.info? 24).isSome = true ∧ RowOk (On w14) b2 (0) (Try.prog.cellsOf 24) #[.int .i64 n, ve]) ∧ ((Try.prog.info? 29).isSome = true ∧ RowOk (On w14) b4 (0) (Try.prog.cellsOf 29) #[vv, vl]) ∧ (0 < Try.prog.cellsOf 27) ∧ (CellOk (On w14) b4 (0 + 0) (vv)) ∧ TT ∧ ((Try.prog.info? 3).isSome = true ∧ IdxOk vv i) ∧ (CellOk (On w14) (hdB vv) (hdO vv + i.toNat * 1) (.int .i64 (V.getD i.toNat 0))) ∧ TT ∧ TT ∧ (Callable Try.prog 106 ∧ CallOk Try.prog (On w14) 106 [.agg #[.int .i64 n, ve], .agg #[vv, vl], .int .i64 (V.getD i.toNat 0), .int .i64 e, .int .i64 f].toArray (.bool (apartB E L (V.getD i.toNat 0) e f))) ∧ True) hA H ⟨⟨by kernel_rfl, by exact box_row H 1 rfl 0 2⟩, ⟨by kernel_rfl, by exact box_row H 0 rfl 0 2⟩, by decide +kernel, by exact box_cell H 0 rfl 0, tv, ⟨by kernel_rfl, by exact idx_ok (H.arg hV) (by omega) (by omega)⟩, by exact cell_flat (i := i) (H.arg hV) (by omega) (by omega) 0 0, tv, tv, ⟨callable_of, callOk_of fun w hw => by exact apart_any n ve E vv vl V L (V.getD i.toNat 0) e f w (by omega) (((H.on hw).arg hE)) (((H.on hw).arg hV)) (((H.on hw).arg hL)) hpt he hf⟩, tv⟩ fun a w18 hA H hG => ?_
   refine hK17 _ _ ?_
   refine go_cond hA (.tmp 26) (apartB E L (V.getD i.toNat 0) e f) (fun hb19 => ?_) (fun hb19 => ?_)
   · have hhb19 := hb19
     refine go_seq fun K20 hK20 => ?_
     refine q_reg [] [(8, .bool false)] (TT ∧ True) hA H ⟨tv, tv⟩ fun a w21 hA H hG => ?_
     refine hK20 _ _ ?_
     refine go_ret_ ?_
     refine ret_one 8 (.bool false) hA ?_
     exact ans_b' (by unfold togB; exact (decide_eq_false (fun q => by have z := q i.toNat (by omega); rw [z] at hhb19; cases hhb19)).symm) H.below
   have hhb19 := hb19
   refine go_skip ?_
   refine hK16 _ _ ?_
   refine q_reg [] [(2, iv e), (3, iv f), (4, pv b2), (5, pv b4), (9, iv (i + 1))] (TT ∧ (InR .i64 (i + 1)) ∧ TT ∧ True) hA H ⟨tv, ⟨by omega, by omega⟩, tv, tv⟩ fun a w22 hA H hG => ?_
   refine ⟨(i + 1), ⟨env_sub _ hA, ⟨_, H⟩, ?_⟩, ?_⟩
   · (try dsimp only); exact ⟨by omega, fun j hj => if q : (j : Int) = i then (by rw [show j = i.toNat by omega]; exact hhb19) else hok j (by omega)⟩
   (try dsimp only); omega
 have hhb15 := of_decide_eq_false hb15
 refine go_exit 0 ?_
 refine hK7 _ _ ?_
 refine go_seq fun K23 hK23 => ?_
 refine q_reg [] [(8, .bool true)] (TT ∧ True) hA H ⟨tv, tv⟩ fun a w24 hA H hG => ?_
 refine hK23 _ _ ?_
 refine go_ret_ ?_
 refine ret_one 8 (.bool true) hA ?_
 exact ans_b' (by unfold togB; exact (decide_eq_true (fun j hj => hok j (by omega))).symm) H.below
theorem rblocks_any (n : Int) (ve : Value) (E : List (Int × Int)) (vv vl : Value) (V L : List Int) (o : Orig) (hn : -9223372036854775808 ≤ n ∧ n ≤ 9223372036854775807) (hE : Rd (· < o.w.heap.size) o.w ve E) (hV : Rd (· < o.w.heap.size) o.w vv V) (hL : Rd (· < o.w.heap.size) o.w vl L) (hpt : partE n E V L = 0) :
 Calls Try.prog 51 [.agg #[.int .i64 n, ve], .agg #[vv, vl]].toArray o.w (Giv o (fun S v w' => Rd S w' v (blocksL n E V L))) := by
 obtain ⟨hp1, hp2, hp3, hp4⟩ := partE_0 hpt
 have hr9 := rightE_0 hp1
 have hl9 := rises_len hp3 (by omega)
 refine enter Try.f51 60 Try.func51 fun a hA => ?_
 replace hA := env_sub [(0, .agg #[.int .i64 n, ve]), (1, .agg #[vv, vl])] hA
 have H := Fr.start o
 refine go_seq fun K1 hK1 => ?_
 refine region_list ?_
 refine list_at 0 ?_; refine q_box 0 2 24 (.tmp 0) (.agg #[.int .i64 n, ve]) [.int .i64 n, ve] [(1, .agg #[vv, vl])] hA H fun b2 a w3 H hA hG hge_b2 => ?_
 clear hge_b2
 refine list_at 1 ?_; refine q_box 1 3 29 (.tmp 1) (.agg #[vv, vl]) [vv, vl] [(2, pv b2)] hA H fun b4 a w5 H hA hG hge_b4 => ?_
 clear hge_b4
 refine q_list 2 1 [] [(2, pv b2), (3, pv b4)] (TT ∧ True) hA H ⟨tv, tv⟩ fun a w6 hA H hG => ?_
 refine list_end ?_
 refine hK1 _ _ ?_
 refine go_seq fun K7 hK7 => ?_
 refine q_reg [] [(2, pv b2), (3, pv b4), (5, (.slice none 0 0))] (TT ∧ True) hA H ⟨tv, tv⟩ fun a w8 hA H hG => ?_
 refine hK7 _ _ ?_
 refine go_seq fun K9 hK9 => ?_
 refine go_seq fun K10 hK10 => ?_
 refine q_reg [] [(2, pv b2), (3, pv b4), (5, (.slice none 0 0)), (6, iv 0)] (TT ∧ True) hA H ⟨tv, tv⟩ fun a w11 hA H hG => ?_
 refine hK10 _ _ ?_
 refine go_block 0 ?_
 replace H := H.newRow (α := List Int × List Int) 29
 refine go_loop_ (Int × Value × List (List Int × List Int)) (fun x_ a W => (fun (i : Int) (vr : Value) (l : List (List Int × List Int)) => EnvOk 60 a (keepEnv [(2, pv b2), (3, pv b4), (5, vr), (6, iv i)]) ∧ (∃ S, Fr o W S [.row 29 vr l, .box b4 29 [vv, vl], .box b2 24 [.int .i64 n, ve]]) ∧ 0 ≤ i ∧ i ≤ (L.length : Int) ∧ (l.length : Int) ≤ i ∧ l = repsL n E V L (L.take i.toNat)) x_.1 x_.2.1 x_.2.2) (fun x_ => (fun (i : Int) (vr : Value) (l : List (List Int × List Int)) => ((L.length : Int) - i).toNat) x_.1 x_.2.1 x_.2.2) (0, .slice none 0 0, []) ?_ (fun x_ a w13 hI => ?_)
 · (try dsimp only); exact ⟨env_sub _ hA, ⟨_, H⟩, by omega, by omega, by simp, by simp [repsL]⟩
 obtain ⟨i, vr, l⟩ := x_
 obtain ⟨hA, ⟨S, H⟩, h0, h0b, h1, hi⟩ := hI
 try dsimp only at h0 h0b h1 hi
 replace H : Fr _ _ _ [.row 29 vr l, .box b4 29 [vv, vl], .box b2 24 [.int .i64 n, ve]] := H
 refine go_seq fun K14 hK14 => ?_
 refine go_seq fun K15 hK15 => ?_
 refine q_reg [(11, vl), (12, iv (L.length : Int))] [(2, pv b2), (3, pv b4), (5, vr), (6, iv i), (13, .bool (decide (i < (L.length : Int))))] (TT ∧ (0 < Try.prog.cellsOf 27) ∧ (CellOk (On w13) b4 (0 + 1) (vl)) ∧ (LenOk vl (L.length : Int)) ∧ TT ∧ True) hA H ⟨tv, by decide +kernel, by exact box_cell H 1 rfl 1, by exact len_ok (H.arg hL), tv, tv⟩ fun a w16 hA H hG => ?_
 refine hK15 _ _ ?_
 refine go_cond hA (.tmp 13) (decide (i < (L.length : Int))) (fun hb17 => ?_) (fun hb17 => ?_)
 · have hhb17 := of_decide_eq_true hb17
   refine go_skip ?_
   refine hK14 _ _ ?_
   refine go_seq fun K18 hK18 => ?_
   refine go_block 1 ?_
   refine go_seq fun K19 hK19 => ?_
   have he : (L.getD i.toNat 0) ∈ L := mem_getD.2 ⟨i.toNat, by omega, rfl⟩
   refine q_reg [] [(2, pv b2), (3, pv b4), (5, vr), (6, iv i), (7, (.slice none 0 0))] (TT ∧ True) hA H ⟨tv, tv⟩ fun a w20 hA H hG => ?_
   refine hK19 _ _ ?_
   refine go_seq fun K21 hK21 => ?_
   refine go_seq fun K22 hK22 => ?_
   refine q_reg [] [(2, pv b2), (3, pv b4), (5, vr), (6, iv i), (7, (.slice none 0 0)), (8, iv 0)] (TT ∧ True) hA H ⟨tv, tv⟩ fun a w23 hA H hG => ?_
   refine hK22 _ _ ?_
   refine go_block 2 ?_
   replace H := H.newRow (α := Int) 3
   refine go_loop_ (Int × Value × List Int) (fun x_ a W => (fun (k : Int) (vc : Value) (c : List Int) => EnvOk 60 a (keepEnv [(2, pv b2), (3, pv b4), (5, vr), (6, iv i), (7, vc), (8, iv k)]) ∧ (∃ S, Fr o W S [.row 3 vc c, .row 29 vr l, .box b4 29 [vv, vl], .box b2 24 [.int .i64 n, ve]]) ∧ 0 ≤ k ∧ k ≤ (L.length : Int) ∧ (c.length : Int) ≤ k ∧ c = (L.take k.toNat).filter (togB E V L (L.getD i.toNat 0))) x_.1 x_.2.1 x_.2.2) (fun x_ => (fun (k : Int) (vc : Value) (c : List Int) => ((L.length : Int) - k).toNat) x_.1 x_.2.1 x_.2.2) (0, .slice none 0 0, []) ?_ (fun x_ a w25 hI => ?_)
   · (try dsimp only); exact ⟨env_sub _ hA, ⟨_, H⟩, by omega, by omega, by simp, by simp⟩
   obtain ⟨k, vc, c⟩ := x_
   obtain ⟨hA, ⟨S, H⟩, k0, k0b, k1, hc⟩ := hI
   try dsimp only at k0 k0b k1 hc
   replace H : Fr _ _ _ [.row 3 vc c, .row 29 vr l, .box b4 29 [vv, vl], .box b2 24 [.int .i64 n, ve]] := H
   refine go_seq fun K26 hK26 => ?_
   refine go_seq fun K27 hK27 => ?_
   refine q_reg [(18, vl), (19, iv (L.length : Int))] [(2, pv b2), (3, pv b4), (5, vr), (6, iv i), (7, vc), (8, iv k), (20, .bool (decide (k < (L.length : Int))))] (TT ∧ (0 < Try.prog.cellsOf 27) ∧ (CellOk (On w25) b4 (0 + 1) (vl)) ∧ (LenOk vl (L.length : Int)) ∧ TT ∧ True) hA H ⟨tv, by decide +kernel, by exact box_cell H 2 rfl 1, by exact len_ok (H.arg hL), tv, tv⟩ fun a w28 hA H hG => ?_
   refine hK27 _ _ ?_
   refine go_cond hA (.tmp 20) (decide (k < (L.length : Int))) (fun hb29 => ?_) (fun hb29 => ?_)
   · have hhb29 := of_decide_eq_true hb29
     refine go_skip ?_
     refine hK26 _ _ ?_
     refine go_seq fun K30 hK30 => ?_
     refine go_block 3 ?_
     refine go_seq fun K31 hK31 => ?_
     have hf : (L.getD k.toNat 0) ∈ L := mem_getD.2 ⟨k.toNat, by omega, rfl⟩
     refine q_draw [(23, .agg #[.int .i64 n, ve]), (24, .agg #[vv, vl]), (26, vl), (29, iv (L.getD i.toNat 0)), (31, vl), (34, iv (L.getD k.toNat 0)), (35, .bool (togB E V L (L.getD i.toNat 0) (L.getD k.toNat 0)))] [(2, pv b2), (3, pv b4), (5, vr), (6, iv i), (7, vc), (8, iv k), (35, .bool (togB E V L (L.getD i.toNat 0) (L.getD k.toNat 0)))] (((Try.prog.info? 24).isSome = true ∧ RowOk (On w28) b2 (0) (Try.prog.cellsOf 24) #[.int .i64 n, ve]) ∧ ((Try.prog.info? 29).isSome = true ∧ RowOk (On w28) b4 (0) (Try.prog.cellsOf 29) #[vv, vl]) ∧ (0 < Try.prog.cellsOf 27) ∧ (CellOk (On w28) b4 (0 + 1) (vl)) ∧ TT ∧ ((Try.prog.info? 3).isSome = true ∧ IdxOk vl i) ∧ (CellOk (On w28) (hdB vl) (hdO vl + i.toNat * 1) (.int .i64 (L.getD i.toNat 0))) ∧ (0 < Try.prog.cellsOf 27) ∧ (CellOk (On w28) b4 (0 + 1) (vl)) ∧ TT ∧ ((Try.prog.info? 3).isSome = true ∧ IdxOk vl k) ∧ (CellOk (On w28) (hdB vl) (hdO vl + k.toNat * 1) (.int .i64 (L.getD k.toNat 0))) ∧ (Callable Try.prog 84 ∧ CallOk Try.prog (On w28) 84 [.agg #[.int .i64 n, ve], .agg #[vv, vl], .int .i64 (L.getD i.toNat 0), .int .i64 (L.getD k.toNat 0)].toArray (.bool (togB E V L (L.getD i.toNat 0) (L.getD k.toNat 0)))) ∧ True) hA H ⟨⟨by kernel_rfl, by exact box_row H 3 rfl 0 2⟩, ⟨by kernel_rfl, by exact box_row H 2 rfl 0 2⟩, by decide +kernel, by exact box_cell H 2 rfl 1, tv, ⟨by kernel_rfl, by exact idx_ok (H.arg hL) (by omega) (by omega)⟩, by exact cell_flat (i := i) (H.arg hL) (by omega) (by omega) 0 0, by decide +kernel, by exact box_cell H 2 rfl 1, tv, ⟨by kernel_rfl, by exact idx_ok (H.arg hL) (by omega) (by omega)⟩, by exact cell_flat (i := k) (H.arg hL) (by omega) (by omega) 0 0, ⟨callable_of, callOk_of fun w hw => by exact tog_any n ve E vv vl V L (L.getD i.toNat 0) (L.getD k.toNat 0) w (by omega) (((H.on hw).arg hE)) (((H.on hw).arg hV)) (((H.on hw).arg hL)) hpt he hf⟩, tv⟩ fun a w32 hA H hG => ?_
     refine hK31 _ _ ?_
     refine go_cond hA (.tmp 35) (togB E V L (L.getD i.toNat 0) (L.getD k.toNat 0)) (fun hb33 => ?_) (fun hb33 => ?_)
     · have hhb33 := hb33
       refine region_list ?_
       refine q_list 0 6 [(38, vl), (41, iv (L.getD k.toNat 0))] [(2, pv b2), (3, pv b4), (5, vr), (6, iv i), (8, iv k), (36, vc), (41, iv (L.getD k.toNat 0))] (TT ∧ (0 < Try.prog.cellsOf 27) ∧ (CellOk (On w32) b4 (0 + 1) (vl)) ∧ TT ∧ ((Try.prog.info? 3).isSome = true ∧ IdxOk vl k) ∧ (CellOk (On w32) (hdB vl) (hdO vl + k.toNat * 1) (.int .i64 (L.getD k.toNat 0))) ∧ True) hA H ⟨tv, by decide +kernel, by exact box_cell H 2 rfl 1, tv, ⟨by kernel_rfl, by exact idx_ok (H.arg hL) (by omega) (by omega)⟩, by exact cell_flat (i := k) (H.arg hL) (by omega) (by omega) 0 0, tv⟩ fun a w34 hA H hG => ?_
       refine list_at 6 ?_; refine q_lit 6 42 27 1 #[(0, .tmp 41)] 3 [(0, iv (L.getD k.toNat 0))] [.int .i64 (L.getD k.toNat 0)] [(2, pv b2), (3, pv b4), (5, vr), (6, iv i), (8, iv k), (36, vc)] hA H fun b35 a w36 H hA hG hge_b35 => ?_
       clear hge_b35
       refine list_at 7 ?_; refine q_push 7 43 (.tmp 36) (.tmp 42) 1 0 b35 1 1 vc c [(L.getD k.toNat 0)] [.int .i64 (L.getD k.toNat 0)] [(2, pv b2), (3, pv b4), (5, vr), (6, iv i), (8, iv k)] hA H Try.E27 rfl rfl (by exact (RowRd.single (α := Int) rfl)) rfl (by simp only [List.length_cons, List.length_nil, List.length_append]; omega) (by decide) fun v37 a w38 H hA hG => ?_
       replace H : Fr _ _ _ [.row 3 v37 (c ++ [(L.getD k.toNat 0)]), .row 29 vr l, .box b4 29 [vv, vl], .box b2 24 [.int .i64 n, ve]] := H.drop 0
       refine q_list 8 1 [] [(2, pv b2), (3, pv b4), (5, vr), (6, iv i), (7, v37), (8, iv k)] (TT ∧ True) hA H ⟨tv, tv⟩ fun a w39 hA H hG => ?_
       refine list_end ?_
       refine hK30 _ _ ?_
       refine q_reg [] [(2, pv b2), (3, pv b4), (5, vr), (6, iv i), (7, v37), (8, iv (k + 1))] (TT ∧ (InR .i64 (k + 1)) ∧ TT ∧ True) hA H ⟨tv, ⟨by omega, by omega⟩, tv, tv⟩ fun a w40 hA H hG => ?_
       refine ⟨(k + 1, v37, c ++ [(L.getD k.toNat 0)]), ⟨env_sub _ hA, ⟨_, H⟩, ?_⟩, ?_⟩
       · (try dsimp only); exact ⟨by omega, by omega, by (try simp only [List.length_append, List.length_cons, List.length_nil]); omega, by rw [hc, take_snoc k0 (by omega), List.filter_append, List.filter_cons, hb33]; rfl⟩
       (try dsimp only); omega
     have hhb33 := hb33
     refine go_skip ?_
     refine hK30 _ _ ?_
     refine q_reg [] [(2, pv b2), (3, pv b4), (5, vr), (6, iv i), (7, vc), (8, iv (k + 1))] (TT ∧ (InR .i64 (k + 1)) ∧ TT ∧ True) hA H ⟨tv, ⟨by omega, by omega⟩, tv, tv⟩ fun a w41 hA H hG => ?_
     refine ⟨(k + 1, vc, c), ⟨env_sub _ hA, ⟨_, H⟩, ?_⟩, ?_⟩
     · (try dsimp only); exact ⟨by omega, by omega, by (try simp only [List.length_append, List.length_cons, List.length_nil]); omega, by rw [hc, take_snoc k0 (by omega), List.filter_append, List.filter_cons, hb33]; simp⟩
     (try dsimp only); omega
   have hhb29 := of_decide_eq_false hb29
   refine go_exit 2 ?_
   refine hK21 _ _ ?_
   refine go_seq fun K42 hK42 => ?_
   have hcl : c = classL E V L (L.getD i.toNat 0) := by rw [hc, List.take_of_length_le (by omega)]; rfl
   have hcp : 0 < c.length := by rw [hcl]; exact List.length_pos_of_mem (class_self he)
   refine q_draw [(46, iv (c.getD (0 : Int).toNat 0)), (48, vl), (51, iv (L.getD i.toNat 0))] [(2, pv b2), (3, pv b4), (5, vr), (6, iv i), (7, vc), (52, .bool (decide ((c.getD (0 : Int).toNat 0) = (L.getD i.toNat 0))))] (TT ∧ ((Try.prog.info? 3).isSome = true ∧ IdxOk vc 0) ∧ (CellOk (On w28) (hdB vc) (hdO vc + (0 : Int).toNat * 1) (.int .i64 (c.getD (0 : Int).toNat 0))) ∧ (0 < Try.prog.cellsOf 27) ∧ (CellOk (On w28) b4 (0 + 1) (vl)) ∧ TT ∧ ((Try.prog.info? 3).isSome = true ∧ IdxOk vl i) ∧ (CellOk (On w28) (hdB vl) (hdO vl + i.toNat * 1) (.int .i64 (L.getD i.toNat 0))) ∧ TT ∧ True) hA H ⟨tv, ⟨by kernel_rfl, by exact idx_ok (H.out 0 rfl) (by omega) (by omega)⟩, by exact cell_flat (i := (0 : Int)) (H.out 0 rfl) (by omega) (by omega) 0 0, by decide +kernel, by exact box_cell H 2 rfl 1, tv, ⟨by kernel_rfl, by exact idx_ok (H.arg hL) (by omega) (by omega)⟩, by exact cell_flat (i := i) (H.arg hL) (by omega) (by omega) 0 0, tv, tv⟩ fun a w43 hA H hG => ?_
   refine hK42 _ _ ?_
   refine go_cond hA (.tmp 52) (decide ((c.getD (0 : Int).toNat 0) = (L.getD i.toNat 0))) (fun hb44 => ?_) (fun hb44 => ?_)
   · have hhb44 := of_decide_eq_true hb44
     have hrs : risesP c (E.length : Int) := by rw [hcl]; exact rises_sub ((rises_iff.1 hp3).1.sublist List.filter_sublist) hp3 fun x hx => (class_mem.1 hx).1
     refine region_list ?_
     refine q_list 0 3 [(54, .agg #[.int .i64 n, ve])] [(2, pv b2), (3, pv b4), (6, iv i), (53, vr), (54, .agg #[.int .i64 n, ve]), (55, vc)] (TT ∧ ((Try.prog.info? 24).isSome = true ∧ RowOk (On w43) b2 (0) (Try.prog.cellsOf 24) #[.int .i64 n, ve]) ∧ TT ∧ True) hA H ⟨tv, ⟨by kernel_rfl, by exact box_row H 3 rfl 0 2⟩, tv, tv⟩ fun a w45 hA H hG => ?_
     refine list_at 3 ?_; refine q_call 3 56 30 #[.tmp 54, .tmp 55] #[24, 27] [.agg #[.int .i64 n, ve], vc] (fun S v_ w' => Rd S w' v_ ((touchL E c n, c))) [(2, pv b2), (3, pv b4), (6, iv i), (53, vr)] hA H (by exact rspan_any n ve E vc c H.at (by omega) ((H.arg hE)) ((H.out 0 rfl)) hrs (by omega) (by omega)) fun v46 a w47 S hR48 H hA hG => ?_
     obtain ⟨v46a, v46b, rfl, hR48a, hR48b⟩ := two_rd hR48
     replace H := H.ro hR48a; replace H := H.ro hR48b
     replace H : Fr _ _ _ [.ro v46b c, .ro v46a (touchL E c n), .row 3 vc c, .row 29 vr l, .box b4 29 [vv, vl], .box b2 24 [.int .i64 n, ve]] := H
     refine list_at 4 ?_; refine q_lit 4 57 56 1 #[(0, .tmp 56)] 29 [(0, .agg #[v46a, v46b])] [v46a, v46b] [(2, pv b2), (3, pv b4), (6, iv i), (53, vr)] hA H fun b51 a w52 H hA hG hge_b51 => ?_
     clear hge_b51
     refine list_at 5 ?_; refine q_push 5 58 (.tmp 53) (.tmp 57) 4 0 b51 1 1 vr l [(touchL E c n, c)] [v46a, v46b] [(2, pv b2), (3, pv b4), (6, iv i)] hA H Try.E56 rfl rfl (by exact (RowRd.single (α := (List (Int)) × List (Int)) ⟨[_], _, rfl, ⟨_, rfl, rd_slice (H.getS 2 rfl)⟩, ⟨_, rfl, rd_slice (H.getS 1 rfl)⟩⟩)) rfl (by simp only [List.length_cons, List.length_nil, List.length_append]; omega) (by decide) fun v53 a w54 H hA hG => ?_
     replace H : Fr _ _ _ [.ro v46b c, .ro v46a (touchL E c n), .row 3 vc c, .row 29 v53 (l ++ [(touchL E c n, c)]), .box b4 29 [vv, vl], .box b2 24 [.int .i64 n, ve]] := H.drop 0
     refine q_list 6 1 [] [(2, pv b2), (3, pv b4), (5, v53), (6, iv i)] (TT ∧ True) hA H ⟨tv, tv⟩ fun a w55 hA H hG => ?_
     refine list_end ?_
     refine hK18 _ _ ?_
     refine q_reg [] [(2, pv b2), (3, pv b4), (5, v53), (6, iv (i + 1))] (TT ∧ (InR .i64 (i + 1)) ∧ TT ∧ True) hA H ⟨tv, ⟨by omega, by omega⟩, tv, tv⟩ fun a w56 hA H hG => ?_
     replace H := H.drop 2
     replace H := H.drop 1
     replace H := H.drop 0
     refine ⟨(i + 1, v53, l ++ [(touchL E c n, c)]), ⟨env_sub _ hA, ⟨_, H⟩, ?_⟩, ?_⟩
     · (try dsimp only); exact ⟨by omega, by omega, by (try simp only [List.length_append, List.length_cons, List.length_nil]); omega, by rw [hi, repsL_snoc h0 (by omega)]; rw [if_pos (by rw [← hcl]; exact hhb44), hcl]⟩
     (try dsimp only); omega
   have hhb44 := of_decide_eq_false hb44
   refine go_skip ?_
   refine hK18 _ _ ?_
   refine q_reg [] [(2, pv b2), (3, pv b4), (5, vr), (6, iv (i + 1))] (TT ∧ (InR .i64 (i + 1)) ∧ TT ∧ True) hA H ⟨tv, ⟨by omega, by omega⟩, tv, tv⟩ fun a w57 hA H hG => ?_
   replace H := H.drop 0
   refine ⟨(i + 1, vr, l), ⟨env_sub _ hA, ⟨_, H⟩, ?_⟩, ?_⟩
   · (try dsimp only); exact ⟨by omega, by omega, by (try simp only [List.length_append, List.length_cons, List.length_nil]); omega, by rw [hi, repsL_snoc h0 (by omega)]; rw [if_neg (by rw [← hcl]; exact hhb44), List.append_nil]⟩
   (try dsimp only); omega
 have hhb17 := of_decide_eq_false hb17
 refine go_exit 0 ?_
 refine hK9 _ _ ?_
 refine go_seq fun K58 hK58 => ?_
 refine q_reg [] [(4, vr)] (TT ∧ TT ∧ True) hA H ⟨tv, tv, tv⟩ fun a w59 hA H hG => ?_
 refine hK58 _ _ ?_
 refine go_ret_ ?_
 refine ret_one 4 vr hA ?_
 have ho := (H.give 0 rfl)
 rw [List.take_of_length_le (by omega)] at hi; rw [hi] at ho; exact ⟨_, rfl, ho, H.below⟩
theorem rsolid_any (n : Int) (ve : Value) (E : List (Int × Int)) (vv vl : Value) (V L : List Int) (w : World) (hn : -9223372036854775808 ≤ n ∧ n ≤ 9223372036854775807) (hE : Rd (· < w.heap.size) w ve E) (hV : Rd (· < w.heap.size) w vv V) (hL : Rd (· < w.heap.size) w vl L) (hpt : partE n E V L = 0) :
 Calls Try.prog 88 [.agg #[.int .i64 n, ve], .agg #[vv, vl]].toArray w (Ans (.bool (solidB n E V L)) w) := by
 refine enter Try.f88 19 Try.func88 fun a hA => ?_
 replace hA := env_sub [(0, .agg #[.int .i64 n, ve]), (1, .agg #[vv, vl])] hA
 have H := Fr.start (org w)
 refine go_seq fun K1 hK1 => ?_
 refine region_list ?_
 refine list_at 0 ?_; refine q_box 0 2 24 (.tmp 0) (.agg #[.int .i64 n, ve]) [.int .i64 n, ve] [(1, .agg #[vv, vl])] hA H fun b2 a w3 H hA hG hge_b2 => ?_
 clear hge_b2
 refine list_at 1 ?_; refine q_box 1 3 29 (.tmp 1) (.agg #[vv, vl]) [vv, vl] [(2, pv b2)] hA H fun b4 a w5 H hA hG hge_b4 => ?_
 clear hge_b4
 refine q_list 2 1 [] [(2, pv b2), (3, pv b4)] (TT ∧ True) hA H ⟨tv, tv⟩ fun a w6 hA H hG => ?_
 refine list_end ?_
 refine hK1 _ _ ?_
 refine go_seq fun K7 hK7 => ?_
 refine region_list ?_
 refine q_list 0 2 [(6, .agg #[.int .i64 n, ve]), (7, .agg #[vv, vl])] [(3, pv b4), (6, .agg #[.int .i64 n, ve]), (7, .agg #[vv, vl])] (((Try.prog.info? 24).isSome = true ∧ RowOk (On w6) b2 (0) (Try.prog.cellsOf 24) #[.int .i64 n, ve]) ∧ ((Try.prog.info? 29).isSome = true ∧ RowOk (On w6) b4 (0) (Try.prog.cellsOf 29) #[vv, vl]) ∧ True) hA H ⟨⟨by kernel_rfl, by exact box_row H 1 rfl 0 2⟩, ⟨by kernel_rfl, by exact box_row H 0 rfl 0 2⟩, tv⟩ fun a w8 hA H hG => ?_
 refine list_at 2 ?_; refine q_call 2 8 51 #[.tmp 6, .tmp 7] #[24, 29] [.agg #[.int .i64 n, ve], .agg #[vv, vl]] (fun S v_ w' => Rd S w' v_ ((blocksL n E V L))) [(3, pv b4)] hA H (by exact rblocks_any n ve E vv vl V L H.at (by omega) ((H.arg hE)) ((H.arg hV)) ((H.arg hL)) hpt) fun v9 a w10 S hR11 H hA hG => ?_
 replace H := H.ro hR11
 refine q_list 3 1 [] [(3, pv b4), (5, v9)] (TT ∧ True) hA H ⟨tv, tv⟩ fun a w13 hA H hG => ?_
 refine list_end ?_
 refine hK7 _ _ ?_
 refine go_seq fun K14 hK14 => ?_
 obtain ⟨ea15, eb16, hea15c, hea15a, hea15b⟩ := cell_twoC (C := On w13) H.keepsS (H.getS 0 rfl) (0 : Int)
 refine q_draw [(10, iv ((blocksL n E V L).length : Int)), (15, .agg #[ea15, eb16]), (16, .agg #[vv, vl]), (17, .bool (decide ((((blocksL n E V L).getD (0 : Int).toNat ([], [])).1) = V) && decide ((((blocksL n E V L).getD (0 : Int).toNat ([], [])).2) = L)))] [(4, .bool ((decide (((blocksL n E V L).length : Int) = 1)) && (decide ((((blocksL n E V L).getD (0 : Int).toNat ([], [])).1) = V) && decide ((((blocksL n E V L).getD (0 : Int).toNat ([], [])).2) = L))))] (TT ∧ (LenOk v9 ((blocksL n E V L).length : Int)) ∧ TT ∧ TT ∧ ((decide (((blocksL n E V L).length : Int) = 1)) = true → True) ∧ ((decide (((blocksL n E V L).length : Int) = 1)) = true → (Try.prog.info? 29).isSome = true ∧ IdxOk v9 0) ∧ ((decide (((blocksL n E V L).length : Int) = 1)) = true → (Try.prog.info? 29).isSome = true ∧ RowOk (On w13) (hdB v9) (hdO v9 + (0 : Int).toNat * 2) (Try.prog.cellsOf 29) #[ea15, eb16]) ∧ ((decide (((blocksL n E V L).length : Int) = 1)) = true → (Try.prog.info? 29).isSome = true ∧ RowOk (On w13) b4 (0) (Try.prog.cellsOf 29) #[vv, vl]) ∧ ((decide (((blocksL n E V L).length : Int) = 1)) = true → Callable Try.prog 29 ∧ CallOk Try.prog (On w13) 29 [.agg #[ea15, eb16], .agg #[vv, vl]].toArray (.bool (decide ((((blocksL n E V L).getD (0 : Int).toNat ([], [])).1) = V) && decide ((((blocksL n E V L).getD (0 : Int).toNat ([], [])).2) = L)))) ∧ TT ∧ TT ∧ True) hA H ⟨tv, by exact len_ok (H.get 0 rfl), tv, tv, fun _ => tv, fun hg0 => by replace hg0 := of_decide_eq_true hg0; exact ⟨by kernel_rfl, by exact idx_ok (H.get 0 rfl) (by omega) (by omega)⟩, fun hg0 => by replace hg0 := of_decide_eq_true hg0; exact ⟨by kernel_rfl, by exact hea15c (by omega) (by omega)⟩, fun _ => ⟨by kernel_rfl, by exact box_row H 1 rfl 0 2⟩, fun hg0 => by replace hg0 := of_decide_eq_true hg0; exact ⟨callable_of, callOk_of fun w hw => by exact rsame_any ea15 eb16 vv vl (((blocksL n E V L).getD (0 : Int).toNat ([], [])).1) (((blocksL n E V L).getD (0 : Int).toNat ([], [])).2) V L w ((rd_on (Rd.up H.inb (hea15a (by omega) (by omega))) hw)) ((rd_on (Rd.up H.inb (hea15b (by omega) (by omega))) hw)) (((H.on hw).arg hV)) (((H.on hw).arg hL))⟩, tv, tv, tv⟩ fun a w17 hA H hG => ?_
 refine hK14 _ _ ?_
 refine go_ret_ ?_
 refine ret_one 4 (.bool ((decide (((blocksL n E V L).length : Int) = 1)) && (decide ((((blocksL n E V L).getD (0 : Int).toNat ([], [])).1) = V) && decide ((((blocksL n E V L).getD (0 : Int).toNat ([], [])).2) = L)))) hA ?_
 exact ans_b' (solid_ref hpt) H.below
theorem rright14_any (vl : Value) (l : List (Int × Int × Int)) (w : World) (hL : Rd (· < w.heap.size) w vl l) (hs : l.length ≤ 100000) :
 Calls Try.prog 60 [vl].toArray w (Ans (.bool (rightK l)) w) := by
 refine enter Try.f60 131 Try.func60 fun a hA => ?_
 replace hA := env_sub [(0, vl)] hA
 have H := Fr.start (org w)
 refine go_seq fun K1 hK1 => ?_
 refine q_reg [] [(0, vl)] (TT ∧ True) hA H ⟨tv, tv⟩ fun a w2 hA H hG => ?_
 refine hK1 _ _ ?_
 refine go_seq fun K3 hK3 => ?_
 refine go_seq fun K4 hK4 => ?_
 refine q_reg [(9, iv (l.length : Int))] [(0, vl), (10, .bool (decide ((1024 : Int) < (l.length : Int))))] (TT ∧ (LenOk vl (l.length : Int)) ∧ TT ∧ True) hA H ⟨tv, by exact len_ok (H.arg hL), tv, tv⟩ fun a w5 hA H hG => ?_
 refine hK4 _ _ ?_
 refine go_cond hA (.tmp 10) (decide ((1024 : Int) < (l.length : Int))) (fun hb6 => ?_) (fun hb6 => ?_)
 · have hhb6 := of_decide_eq_true hb6
   refine go_seq fun K7 hK7 => ?_
   refine q_reg [] [(2, .bool false)] (TT ∧ True) hA H ⟨tv, tv⟩ fun a w8 hA H hG => ?_
   refine hK7 _ _ ?_
   refine go_ret_ ?_
   refine ret_one 2 (.bool false) hA ?_
   exact ans_b' (Eq.symm (by first | exact rk_big (by omega) | exact rk_not (by omega) (okLk_twice k0 (by omega) hhb6) | exact rk_not (i := i.toNat) (by omega) (okLk_no hhb6) | exact rk_err (by rw [← hn, ← he]; exact hhb6))) H.below
 have hhb6 := of_decide_eq_false hb6
 refine go_skip ?_
 refine hK3 _ _ ?_
 refine go_seq fun K9 hK9 => ?_
 refine region_list ?_
 refine list_at 0 ?_; refine q_alloc 0 3 24 [.int .i64 0, (.slice none 0 0)] [(0, vl)] hA H fun b10 a w11 H hA hG hge_b10 => ?_
 clear hge_b10
 replace H := H.newRow (α := Int × Int) 99
 refine list_end ?_
 refine hK9 _ _ ?_
 refine go_seq fun K12 hK12 => ?_
 refine go_seq fun K13 hK13 => ?_
 refine q_reg [] [(0, vl), (3, pv b10), (4, iv 0)] (TT ∧ True) hA H ⟨tv, tv⟩ fun a w14 hA H hG => ?_
 refine hK13 _ _ ?_
 refine go_block 0 ?_
 refine go_loop_ (Int × Int × Value × List (Int × Int)) (fun x_ a W => (fun (i : Int) (n : Int) (ve : Value) (e : List (Int × Int)) => EnvOk 131 a (keepEnv [(0, vl), (3, pv b10), (4, iv i)]) ∧ (∃ S, Fr (org w) W S [.row 99 ve e, .box b10 24 [.int .i64 n, ve]]) ∧ 0 ≤ i ∧ i ≤ (l.length : Int) ∧ (e.length : Int) ≤ i ∧ (∀ j : Nat, (j : Int) < i → okLk l j) ∧ n = nK (l.take i.toNat) ∧ e = eK (l.take i.toNat)) x_.1 x_.2.1 x_.2.2.1 x_.2.2.2) (fun x_ => (fun (i : Int) (n : Int) (ve : Value) (e : List (Int × Int)) => ((l.length : Int) - i).toNat) x_.1 x_.2.1 x_.2.2.1 x_.2.2.2) (0, 0, .slice none 0 0, []) ?_ (fun x_ a w16 hI => ?_)
 · (try dsimp only); exact ⟨env_sub _ hA, ⟨_, H⟩, by omega, by omega, by simp, fun j hj => by omega, by simp [nK], by simp [eK]⟩
 obtain ⟨i, n, ve, e⟩ := x_
 obtain ⟨hA, ⟨S, H⟩, h0, h0b, he1, hok, hn, he⟩ := hI
 try dsimp only at h0 h0b he1 hok hn he
 replace H : Fr _ _ _ [.row 99 ve e, .box b10 24 [.int .i64 n, ve]] := H
 have hn9 : 0 ≤ n ∧ n ≤ 1024 := by rw [hn]; exact nK_bd2 (by omega) hok
 refine go_seq fun K17 hK17 => ?_
 refine go_seq fun K18 hK18 => ?_
 refine q_reg [(13, iv (l.length : Int))] [(0, vl), (3, pv b10), (4, iv i), (14, .bool (decide (i < (l.length : Int))))] (TT ∧ TT ∧ (LenOk vl (l.length : Int)) ∧ TT ∧ True) hA H ⟨tv, tv, by exact len_ok (H.arg hL), tv, tv⟩ fun a w19 hA H hG => ?_
 refine hK18 _ _ ?_
 refine go_cond hA (.tmp 14) (decide (i < (l.length : Int))) (fun hb20 => ?_) (fun hb20 => ?_)
 · have hhb20 := of_decide_eq_true hb20
   refine go_skip ?_
   refine hK17 _ _ ?_
   refine go_seq fun K21 hK21 => ?_
   refine go_block 1 ?_
   refine go_seq fun K22 hK22 => ?_
   refine go_seq fun K23 hK23 => ?_
   refine q_draw [(21, iv ((l.getD i.toNat (0, (0, 0))).1)), (28, iv (((l.getD i.toNat (0, (0, 0))).2).1)), (36, iv ((l.getD i.toNat (0, (0, 0))).1)), (44, iv (((l.getD i.toNat (0, (0, 0))).2).1)), (52, iv ((l.getD i.toNat (0, (0, 0))).1)), (57, iv (((l.getD i.toNat (0, (0, 0))).2).1))] [(0, vl), (3, pv b10), (4, iv i), (59, .bool (((((decide ((l.getD i.toNat (0, (0, 0))).1 < 0)) || (decide (((l.getD i.toNat (0, (0, 0))).2).1 < 0))) || (decide ((1024 : Int) ≤ (l.getD i.toNat (0, (0, 0))).1))) || (decide ((1024 : Int) ≤ ((l.getD i.toNat (0, (0, 0))).2).1))) || (decide ((l.getD i.toNat (0, (0, 0))).1 = ((l.getD i.toNat (0, (0, 0))).2).1))))] (TT ∧ TT ∧ ((Try.prog.info? 113).isSome = true ∧ IdxOk vl i) ∧ (0 < Try.prog.cellsOf 3) ∧ (CellOk (On w19) (hdB vl) (hdO vl + i.toNat * 3 + 0) (.int .i64 ((l.getD i.toNat (0, (0, 0))).1))) ∧ TT ∧ TT ∧ ((decide ((l.getD i.toNat (0, (0, 0))).1 < 0)) = false → True) ∧ ((decide ((l.getD i.toNat (0, (0, 0))).1 < 0)) = false → True) ∧ ((decide ((l.getD i.toNat (0, (0, 0))).1 < 0)) = false → (Try.prog.info? 113).isSome = true ∧ IdxOk vl i) ∧ ((decide ((l.getD i.toNat (0, (0, 0))).1 < 0)) = false → 0 < Try.prog.cellsOf 3) ∧ ((decide ((l.getD i.toNat (0, (0, 0))).1 < 0)) = false → CellOk (On w19) (hdB vl) (hdO vl + i.toNat * 3 + 1) (.int .i64 (((l.getD i.toNat (0, (0, 0))).2).1))) ∧ ((decide ((l.getD i.toNat (0, (0, 0))).1 < 0)) = false → True) ∧ TT ∧ TT ∧ (((decide ((l.getD i.toNat (0, (0, 0))).1 < 0)) || (decide (((l.getD i.toNat (0, (0, 0))).2).1 < 0))) = false → True) ∧ (((decide ((l.getD i.toNat (0, (0, 0))).1 < 0)) || (decide (((l.getD i.toNat (0, (0, 0))).2).1 < 0))) = false → True) ∧ (((decide ((l.getD i.toNat (0, (0, 0))).1 < 0)) || (decide (((l.getD i.toNat (0, (0, 0))).2).1 < 0))) = false → (Try.prog.info? 113).isSome = true ∧ IdxOk vl i) ∧ (((decide ((l.getD i.toNat (0, (0, 0))).1 < 0)) || (decide (((l.getD i.toNat (0, (0, 0))).2).1 < 0))) = false → 0 < Try.prog.cellsOf 3) ∧ (((decide ((l.getD i.toNat (0, (0, 0))).1 < 0)) || (decide (((l.getD i.toNat (0, (0, 0))).2).1 < 0))) = false → CellOk (On w19) (hdB vl) (hdO vl + i.toNat * 3 + 0) (.int .i64 ((l.getD i.toNat (0, (0, 0))).1))) ∧ (((decide ((l.getD i.toNat (0, (0, 0))).1 < 0)) || (decide (((l.getD i.toNat (0, (0, 0))).2).1 < 0))) = false → True) ∧ TT ∧ TT ∧ ((((decide ((l.getD i.toNat (0, (0, 0))).1 < 0)) || (decide (((l.getD i.toNat (0, (0, 0))).2).1 < 0))) || (decide ((1024 : Int) ≤ (l.getD i.toNat (0, (0, 0))).1))) = false → True) ∧ ((((decide ((l.getD i.toNat (0, (0, 0))).1 < 0)) || (decide (((l.getD i.toNat (0, (0, 0))).2).1 < 0))) || (decide ((1024 : Int) ≤ (l.getD i.toNat (0, (0, 0))).1))) = false → True) ∧ ((((decide ((l.getD i.toNat (0, (0, 0))).1 < 0)) || (decide (((l.getD i.toNat (0, (0, 0))).2).1 < 0))) || (decide ((1024 : Int) ≤ (l.getD i.toNat (0, (0, 0))).1))) = false → (Try.prog.info? 113).isSome = true ∧ IdxOk vl i) ∧ ((((decide ((l.getD i.toNat (0, (0, 0))).1 < 0)) || (decide (((l.getD i.toNat (0, (0, 0))).2).1 < 0))) || (decide ((1024 : Int) ≤ (l.getD i.toNat (0, (0, 0))).1))) = false → 0 < Try.prog.cellsOf 3) ∧ ((((decide ((l.getD i.toNat (0, (0, 0))).1 < 0)) || (decide (((l.getD i.toNat (0, (0, 0))).2).1 < 0))) || (decide ((1024 : Int) ≤ (l.getD i.toNat (0, (0, 0))).1))) = false → CellOk (On w19) (hdB vl) (hdO vl + i.toNat * 3 + 1) (.int .i64 (((l.getD i.toNat (0, (0, 0))).2).1))) ∧ ((((decide ((l.getD i.toNat (0, (0, 0))).1 < 0)) || (decide (((l.getD i.toNat (0, (0, 0))).2).1 < 0))) || (decide ((1024 : Int) ≤ (l.getD i.toNat (0, (0, 0))).1))) = false → True) ∧ TT ∧ TT ∧ (((((decide ((l.getD i.toNat (0, (0, 0))).1 < 0)) || (decide (((l.getD i.toNat (0, (0, 0))).2).1 < 0))) || (decide ((1024 : Int) ≤ (l.getD i.toNat (0, (0, 0))).1))) || (decide ((1024 : Int) ≤ ((l.getD i.toNat (0, (0, 0))).2).1))) = false → True) ∧ (((((decide ((l.getD i.toNat (0, (0, 0))).1 < 0)) || (decide (((l.getD i.toNat (0, (0, 0))).2).1 < 0))) || (decide ((1024 : Int) ≤ (l.getD i.toNat (0, (0, 0))).1))) || (decide ((1024 : Int) ≤ ((l.getD i.toNat (0, (0, 0))).2).1))) = false → True) ∧ (((((decide ((l.getD i.toNat (0, (0, 0))).1 < 0)) || (decide (((l.getD i.toNat (0, (0, 0))).2).1 < 0))) || (decide ((1024 : Int) ≤ (l.getD i.toNat (0, (0, 0))).1))) || (decide ((1024 : Int) ≤ ((l.getD i.toNat (0, (0, 0))).2).1))) = false → (Try.prog.info? 113).isSome = true ∧ IdxOk vl i) ∧ (((((decide ((l.getD i.toNat (0, (0, 0))).1 < 0)) || (decide (((l.getD i.toNat (0, (0, 0))).2).1 < 0))) || (decide ((1024 : Int) ≤ (l.getD i.toNat (0, (0, 0))).1))) || (decide ((1024 : Int) ≤ ((l.getD i.toNat (0, (0, 0))).2).1))) = false → 0 < Try.prog.cellsOf 3) ∧ (((((decide ((l.getD i.toNat (0, (0, 0))).1 < 0)) || (decide (((l.getD i.toNat (0, (0, 0))).2).1 < 0))) || (decide ((1024 : Int) ≤ (l.getD i.toNat (0, (0, 0))).1))) || (decide ((1024 : Int) ≤ ((l.getD i.toNat (0, (0, 0))).2).1))) = false → CellOk (On w19) (hdB vl) (hdO vl + i.toNat * 3 + 0) (.int .i64 ((l.getD i.toNat (0, (0, 0))).1))) ∧ (((((decide ((l.getD i.toNat (0, (0, 0))).1 < 0)) || (decide (((l.getD i.toNat (0, (0, 0))).2).1 < 0))) || (decide ((1024 : Int) ≤ (l.getD i.toNat (0, (0, 0))).1))) || (decide ((1024 : Int) ≤ ((l.getD i.toNat (0, (0, 0))).2).1))) = false → True) ∧ (((((decide ((l.getD i.toNat (0, (0, 0))).1 < 0)) || (decide (((l.getD i.toNat (0, (0, 0))).2).1 < 0))) || (decide ((1024 : Int) ≤ (l.getD i.toNat (0, (0, 0))).1))) || (decide ((1024 : Int) ≤ ((l.getD i.toNat (0, (0, 0))).2).1))) = false → True) ∧ (((((decide ((l.getD i.toNat (0, (0, 0))).1 < 0)) || (decide (((l.getD i.toNat (0, (0, 0))).2).1 < 0))) || (decide ((1024 : Int) ≤ (l.getD i.toNat (0, (0, 0))).1))) || (decide ((1024 : Int) ≤ ((l.getD i.toNat (0, (0, 0))).2).1))) = false → (Try.prog.info? 113).isSome = true ∧ IdxOk vl i) ∧ (((((decide ((l.getD i.toNat (0, (0, 0))).1 < 0)) || (decide (((l.getD i.toNat (0, (0, 0))).2).1 < 0))) || (decide ((1024 : Int) ≤ (l.getD i.toNat (0, (0, 0))).1))) || (decide ((1024 : Int) ≤ ((l.getD i.toNat (0, (0, 0))).2).1))) = false → 0 < Try.prog.cellsOf 3) ∧ (((((decide ((l.getD i.toNat (0, (0, 0))).1 < 0)) || (decide (((l.getD i.toNat (0, (0, 0))).2).1 < 0))) || (decide ((1024 : Int) ≤ (l.getD i.toNat (0, (0, 0))).1))) || (decide ((1024 : Int) ≤ ((l.getD i.toNat (0, (0, 0))).2).1))) = false → CellOk (On w19) (hdB vl) (hdO vl + i.toNat * 3 + 1) (.int .i64 (((l.getD i.toNat (0, (0, 0))).2).1))) ∧ (((((decide ((l.getD i.toNat (0, (0, 0))).1 < 0)) || (decide (((l.getD i.toNat (0, (0, 0))).2).1 < 0))) || (decide ((1024 : Int) ≤ (l.getD i.toNat (0, (0, 0))).1))) || (decide ((1024 : Int) ≤ ((l.getD i.toNat (0, (0, 0))).2).1))) = false → True) ∧ TT ∧ True) hA H ⟨tv, tv, ⟨by kernel_rfl, by exact idx_ok (H.arg hL) (by omega) (by omega)⟩, by decide +kernel, by exact cell_flat (i := i) (H.arg hL) (by omega) (by omega) (0, (0, 0)) 0, tv, tv, fun _ => tv, fun _ => tv, fun hg0 => by replace hg0 := of_decide_eq_false hg0; exact ⟨by kernel_rfl, by exact idx_ok (H.arg hL) (by omega) (by omega)⟩, fun _ => by decide +kernel, fun hg0 => by replace hg0 := of_decide_eq_false hg0; exact by exact cell_flat (i := i) (H.arg hL) (by omega) (by omega) (0, (0, 0)) 1, fun _ => tv, tv, tv, fun _ => tv, fun _ => tv, fun hg0 => by replace hg0 := (⟨of_decide_eq_false ((oF hg0).1), of_decide_eq_false ((oF hg0).2)⟩ : _ ∧ _); exact ⟨by kernel_rfl, by exact idx_ok (H.arg hL) (by omega) (by omega)⟩, fun _ => by decide +kernel, fun hg0 => by replace hg0 := (⟨of_decide_eq_false ((oF hg0).1), of_decide_eq_false ((oF hg0).2)⟩ : _ ∧ _); exact by exact cell_flat (i := i) (H.arg hL) (by omega) (by omega) (0, (0, 0)) 0, fun _ => tv, tv, tv, fun _ => tv, fun _ => tv, fun hg0 => by replace hg0 := (⟨(⟨of_decide_eq_false ((oF ((oF hg0).1)).1), of_decide_eq_false ((oF ((oF hg0).1)).2)⟩ : _ ∧ _), of_decide_eq_false ((oF hg0).2)⟩ : _ ∧ _); exact ⟨by kernel_rfl, by exact idx_ok (H.arg hL) (by omega) (by omega)⟩, fun _ => by decide +kernel, fun hg0 => by replace hg0 := (⟨(⟨of_decide_eq_false ((oF ((oF hg0).1)).1), of_decide_eq_false ((oF ((oF hg0).1)).2)⟩ : _ ∧ _), of_decide_eq_false ((oF hg0).2)⟩ : _ ∧ _); exact by exact cell_flat (i := i) (H.arg hL) (by omega) (by omega) (0, (0, 0)) 1, fun _ => tv, tv, tv, fun _ => tv, fun _ => tv, fun hg0 => by replace hg0 := (⟨(⟨(⟨of_decide_eq_false ((oF ((oF ((oF hg0).1)).1)).1), of_decide_eq_false ((oF ((oF ((oF hg0).1)).1)).2)⟩ : _ ∧ _), of_decide_eq_false ((oF ((oF hg0).1)).2)⟩ : _ ∧ _), of_decide_eq_false ((oF hg0).2)⟩ : _ ∧ _); exact ⟨by kernel_rfl, by exact idx_ok (H.arg hL) (by omega) (by omega)⟩, fun _ => by decide +kernel, fun hg0 => by replace hg0 := (⟨(⟨(⟨of_decide_eq_false ((oF ((oF ((oF hg0).1)).1)).1), of_decide_eq_false ((oF ((oF ((oF hg0).1)).1)).2)⟩ : _ ∧ _), of_decide_eq_false ((oF ((oF hg0).1)).2)⟩ : _ ∧ _), of_decide_eq_false ((oF hg0).2)⟩ : _ ∧ _); exact by exact cell_flat (i := i) (H.arg hL) (by omega) (by omega) (0, (0, 0)) 0, fun _ => tv, fun _ => tv, fun hg0 => by replace hg0 := (⟨(⟨(⟨of_decide_eq_false ((oF ((oF ((oF hg0).1)).1)).1), of_decide_eq_false ((oF ((oF ((oF hg0).1)).1)).2)⟩ : _ ∧ _), of_decide_eq_false ((oF ((oF hg0).1)).2)⟩ : _ ∧ _), of_decide_eq_false ((oF hg0).2)⟩ : _ ∧ _); exact ⟨by kernel_rfl, by exact idx_ok (H.arg hL) (by omega) (by omega)⟩, fun _ => by decide +kernel, fun hg0 => by replace hg0 := (⟨(⟨(⟨of_decide_eq_false ((oF ((oF ((oF hg0).1)).1)).1), of_decide_eq_false ((oF ((oF ((oF hg0).1)).1)).2)⟩ : _ ∧ _), of_decide_eq_false ((oF ((oF hg0).1)).2)⟩ : _ ∧ _), of_decide_eq_false ((oF hg0).2)⟩ : _ ∧ _); exact by exact cell_flat (i := i) (H.arg hL) (by omega) (by omega) (0, (0, 0)) 1, fun _ => tv, tv, tv⟩ fun a w24 hA H hG => ?_
   refine hK23 _ _ ?_
   refine go_cond hA (.tmp 59) (((((decide ((l.getD i.toNat (0, (0, 0))).1 < 0)) || (decide (((l.getD i.toNat (0, (0, 0))).2).1 < 0))) || (decide ((1024 : Int) ≤ (l.getD i.toNat (0, (0, 0))).1))) || (decide ((1024 : Int) ≤ ((l.getD i.toNat (0, (0, 0))).2).1))) || (decide ((l.getD i.toNat (0, (0, 0))).1 = ((l.getD i.toNat (0, (0, 0))).2).1))) (fun hb25 => ?_) (fun hb25 => ?_)
   · have hhb25 := (oT hb25).imp (fun h => (oT h).imp (fun h => (oT h).imp (fun h => (oT h).imp (fun h => of_decide_eq_true h) (fun h => of_decide_eq_true h)) (fun h => of_decide_eq_true h)) (fun h => of_decide_eq_true h)) (fun h => of_decide_eq_true h)
     refine go_seq fun K26 hK26 => ?_
     refine q_reg [] [(2, .bool false)] (TT ∧ True) hA H ⟨tv, tv⟩ fun a w27 hA H hG => ?_
     refine hK26 _ _ ?_
     refine go_ret_ ?_
     refine ret_one 2 (.bool false) hA ?_
     exact ans_b' (Eq.symm (by first | exact rk_big (by omega) | exact rk_not (by omega) (okLk_twice k0 (by omega) hhb25) | exact rk_not (i := i.toNat) (by omega) (okLk_no hhb25) | exact rk_err (by rw [← hn, ← he]; exact hhb25))) H.below
   have hhb25 := (⟨(⟨(⟨(⟨of_decide_eq_false ((oF ((oF ((oF ((oF hb25).1)).1)).1)).1), of_decide_eq_false ((oF ((oF ((oF ((oF hb25).1)).1)).1)).2)⟩ : _ ∧ _), of_decide_eq_false ((oF ((oF ((oF hb25).1)).1)).2)⟩ : _ ∧ _), of_decide_eq_false ((oF ((oF hb25).1)).2)⟩ : _ ∧ _), of_decide_eq_false ((oF hb25).2)⟩ : _ ∧ _)
   refine go_skip ?_
   refine hK22 _ _ ?_
   refine go_seq fun K28 hK28 => ?_
   refine go_seq fun K29 hK29 => ?_
   refine q_reg [] [(0, vl), (3, pv b10), (4, iv i), (5, iv 0)] (TT ∧ True) hA H ⟨tv, tv⟩ fun a w30 hA H hG => ?_
   refine hK29 _ _ ?_
   refine go_block 2 ?_
   have hno := hhb25
   refine go_loop_ (Int) (fun x_ a W => (fun (k : Int) => EnvOk 131 a (keepEnv [(0, vl), (3, pv b10), (4, iv i), (5, iv k)]) ∧ (∃ S, Fr (org w) W S [.row 99 ve e, .box b10 24 [.int .i64 n, ve]]) ∧ 0 ≤ k ∧ k ≤ i ∧ ∀ q : Nat, (q : Int) < k → lkI l (q : Int) ≠ lkI l i) x_) (fun x_ => (fun (k : Int) => (i - k).toNat) x_) (0) ?_ (fun k a w32 hI => ?_)
   · (try dsimp only); exact ⟨env_sub _ hA, ⟨_, H⟩, by omega, by omega, fun q hq => by omega⟩
   obtain ⟨hA, ⟨S, H⟩, k0, k0b, hk⟩ := hI
   try dsimp only at k0 k0b hk
   refine go_seq fun K33 hK33 => ?_
   refine go_seq fun K34 hK34 => ?_
   refine q_reg [] [(0, vl), (3, pv b10), (4, iv i), (5, iv k), (62, .bool (decide (k < i)))] (TT ∧ TT ∧ TT ∧ True) hA H ⟨tv, tv, tv, tv⟩ fun a w35 hA H hG => ?_
   refine hK34 _ _ ?_
   refine go_cond hA (.tmp 62) (decide (k < i)) (fun hb36 => ?_) (fun hb36 => ?_)
   · have hhb36 := of_decide_eq_true hb36
     refine go_skip ?_
     refine hK33 _ _ ?_
     refine go_seq fun K37 hK37 => ?_
     refine go_block 3 ?_
     refine go_seq fun K38 hK38 => ?_
     refine q_draw [(69, iv (((l.getD k.toNat (0, (0, 0))).2).2)), (74, iv (((l.getD i.toNat (0, (0, 0))).2).2))] [(0, vl), (3, pv b10), (4, iv i), (5, iv k), (75, .bool (decide (((l.getD k.toNat (0, (0, 0))).2).2 = ((l.getD i.toNat (0, (0, 0))).2).2)))] (TT ∧ TT ∧ ((Try.prog.info? 113).isSome = true ∧ IdxOk vl k) ∧ (0 < Try.prog.cellsOf 3) ∧ (CellOk (On w35) (hdB vl) (hdO vl + k.toNat * 3 + 2) (.int .i64 (((l.getD k.toNat (0, (0, 0))).2).2))) ∧ TT ∧ TT ∧ ((Try.prog.info? 113).isSome = true ∧ IdxOk vl i) ∧ (0 < Try.prog.cellsOf 3) ∧ (CellOk (On w35) (hdB vl) (hdO vl + i.toNat * 3 + 2) (.int .i64 (((l.getD i.toNat (0, (0, 0))).2).2))) ∧ TT ∧ True) hA H ⟨tv, tv, ⟨by kernel_rfl, by exact idx_ok (H.arg hL) (by omega) (by omega)⟩, by decide +kernel, by exact cell_flat (i := k) (H.arg hL) (by omega) (by omega) (0, (0, 0)) 2, tv, tv, ⟨by kernel_rfl, by exact idx_ok (H.arg hL) (by omega) (by omega)⟩, by decide +kernel, by exact cell_flat (i := i) (H.arg hL) (by omega) (by omega) (0, (0, 0)) 2, tv, tv⟩ fun a w39 hA H hG => ?_
     refine hK38 _ _ ?_
     refine go_cond hA (.tmp 75) (decide (((l.getD k.toNat (0, (0, 0))).2).2 = ((l.getD i.toNat (0, (0, 0))).2).2)) (fun hb40 => ?_) (fun hb40 => ?_)
     · have hhb40 := of_decide_eq_true hb40
       refine go_seq fun K41 hK41 => ?_
       refine q_reg [] [(2, .bool false)] (TT ∧ True) hA H ⟨tv, tv⟩ fun a w42 hA H hG => ?_
       refine hK41 _ _ ?_
       refine go_ret_ ?_
       refine ret_one 2 (.bool false) hA ?_
       exact ans_b' (Eq.symm (by first | exact rk_big (by omega) | exact rk_not (by omega) (okLk_twice k0 (by omega) hhb40) | exact rk_not (i := i.toNat) (by omega) (okLk_no hhb40) | exact rk_err (by rw [← hn, ← he]; exact hhb40))) H.below
     have hhb40 := of_decide_eq_false hb40
     refine go_skip ?_
     refine hK37 _ _ ?_
     refine q_reg [] [(0, vl), (3, pv b10), (4, iv i), (5, iv (k + 1))] (TT ∧ (InR .i64 (k + 1)) ∧ TT ∧ True) hA H ⟨tv, ⟨by omega, by omega⟩, tv, tv⟩ fun a w43 hA H hG => ?_
     refine ⟨(k + 1), ⟨env_sub _ hA, ⟨_, H⟩, ?_⟩, ?_⟩
     · (try dsimp only); exact ⟨by omega, by omega, fun q hq => if z : (q : Int) = k then (by rw [z]; exact hhb40) else hk q (by omega)⟩
     (try dsimp only); omega
   have hhb36 := of_decide_eq_false hb36
   refine go_exit 2 ?_
   refine hK28 _ _ ?_
   refine go_seq fun K44 hK44 => ?_
   have hlk : okLk l i.toNat := okLk_mk h0 (fun q hq => hk q (by omega)) hno.1.1.1.1 hno.1.1.1.2 hno.1.1.2 hno.1.2 hno.2
   have hl9 := hlk.2
   have H0 := H
   have hM0 := H0.keeps ve.ownBlock (.inr ⟨_, List.mem_of_getElem? (i := 0) rfl, rfl⟩)
   refine region_mix (But w35 ve.ownBlock) [0, 1, 2, 3, 4, 5, 6, 7, 8, 9, 10, 11, 12, 13, 14] 17 ?_
   replace H := H.drawn; have hD := But.drew w35 ve.ownBlock
   generalize ({ w35 with drawn := w35.drawn + 1 } : World) = w45 at H hD ⊢
   refine m_take (n := 4) [0, 1, 2, 3, 4, 5, 6, 7, 8, 9, 10, 11, 12] #[true, true, true, true, true, true, true, true, true, true, true, true, true, false, false, false, false] [(77, ve), (82, iv ((l.getD i.toNat (0, (0, 0))).1)), (87, iv (((l.getD i.toNat (0, (0, 0))).2).1)), (88, .agg #[.int .i64 ((l.getD i.toNat (0, (0, 0))).1), .int .i64 (((l.getD i.toNat (0, (0, 0))).2).1)])] [(0, vl), (3, pv b10), (4, iv i), (77, ve), (88, .agg #[.int .i64 ((l.getD i.toNat (0, (0, 0))).1), .int .i64 (((l.getD i.toNat (0, (0, 0))).2).1)])] ((0 < Try.prog.cellsOf 22) ∧ (CellOk (But w35 ve.ownBlock) b10 (0 + 1) (ve)) ∧ TT ∧ TT ∧ ((Try.prog.info? 113).isSome = true ∧ IdxOk vl i) ∧ (0 < Try.prog.cellsOf 3) ∧ (CellOk (But w35 ve.ownBlock) (hdB vl) (hdO vl + i.toNat * 3 + 0) (.int .i64 ((l.getD i.toNat (0, (0, 0))).1))) ∧ TT ∧ TT ∧ ((Try.prog.info? 113).isSome = true ∧ IdxOk vl i) ∧ (0 < Try.prog.cellsOf 3) ∧ (CellOk (But w35 ve.ownBlock) (hdB vl) (hdO vl + i.toNat * 3 + 1) (.int .i64 (((l.getD i.toNat (0, (0, 0))).2).1))) ∧ (∀ w, (Instr.build 99 #[(0, iv ((l.getD i.toNat (0, (0, 0))).1)), (1, iv (((l.getD i.toNat (0, (0, 0))).2).1))]).run Try.prog w = .ok (.agg #[.int .i64 ((l.getD i.toNat (0, (0, 0))).1), .int .i64 (((l.getD i.toNat (0, (0, 0))).2).1)]) w) ∧ True) hA hD ⟨by decide +kernel, by exact box_cellC (box_atC H0 ve.ownBlock 1 rfl (H0.apart 1 0 (by decide) rfl rfl rfl)) 1, tv, tv, ⟨by kernel_rfl, by exact idx_ok (H0.argT hL) (by omega) (by omega)⟩, by decide +kernel, by exact cell_flatC hM0 (i := i) (H0.argT hL) (by omega) (by omega) (0, (0, 0)) 0, tv, tv, ⟨by kernel_rfl, by exact idx_ok (H0.argT hL) (by omega) (by omega)⟩, by decide +kernel, by exact cell_flatC hM0 (i := i) (H0.argT hL) (by omega) (by omega) (0, (0, 0)) 1, fun w => by kernel_rfl, tv⟩ fun a hA => ?_
   refine m_one 13 ?_; refine q_lit 13 89 22 1 #[(0, .tmp 88)] 99 [(0, .agg #[.int .i64 ((l.getD i.toNat (0, (0, 0))).1), .int .i64 (((l.getD i.toNat (0, (0, 0))).2).1)])] [.int .i64 ((l.getD i.toNat (0, (0, 0))).1), .int .i64 (((l.getD i.toNat (0, (0, 0))).2).1)] [(0, vl), (3, pv b10), (4, iv i), (77, ve)] hA H fun b46 a w47 H hA hG hge_b46 => ?_
   replace hge_b46 := Nat.le_trans hD.1 hge_b46
   replace hD := hD.below hG
   refine ⟨fun _ => hD, ?_⟩
   refine m_one 14 ?_; refine q_push 14 90 (.tmp 77) (.tmp 89) 1 0 b46 1 1 ve e [((l.getD i.toNat (0, (0, 0))).1, ((l.getD i.toNat (0, (0, 0))).2).1)] [.int .i64 ((l.getD i.toNat (0, (0, 0))).1), .int .i64 (((l.getD i.toNat (0, (0, 0))).2).1)] [(0, vl), (3, pv b10), (4, iv i)] hA H Try.E22 rfl rfl (by exact (RowRd.single (α := Int × Int) ⟨[_], _, rfl, rfl, rfl⟩)) rfl (by simp only [List.length_cons, List.length_nil, List.length_append]; omega) (by decide) fun v48 a w49 H hA hG => ?_
   replace H : Fr _ _ _ [.row 99 v48 (e ++ [((l.getD i.toNat (0, (0, 0))).1, ((l.getD i.toNat (0, (0, 0))).2).1)]), .box b10 24 [.int .i64 n, ve]] := H.drop 0
   replace hD := hD.grown hG (fun b hb => .inl hb.symm)
   refine ⟨fun _ => hD, ?_⟩
   refine m_one 15 ?_; refine q_one 15 [] [(0, vl), (3, pv b10), (4, iv i), (90, v48), (91, .pointer (some ⟨b10, 0 + 1, none⟩))] ((0 < Try.prog.cellsOf 22) ∧ True) hA H ⟨by decide +kernel, tv⟩ fun a w50 H hA hG => ?_
   refine ⟨fun h => absurd h (by decide), ?_⟩
   refine m_one 16 ?_; refine q_store 16 22 (.tmp 91) (.tmp 90) 1 b10 (0 + 1) 24 [.int .i64 n, ve] [v48] [.int .i64 n, v48] v48 [(0, vl), (3, pv b10), (4, iv i)] hA H rfl (one_cells (rd_one (H.out 0 rfl))) (Nat.le_of_ble_eq_true (by kernel_rfl)) rfl (fun v hv => by simp only [List.mem_cons, List.not_mem_nil, or_false] at hv; rcases hv with rfl; exact (rd_one (H.out 0 rfl))) fun a w51 H hA hG => ?_
   replace H : Fr _ _ _ [.row 99 v48 (e ++ [((l.getD i.toNat (0, (0, 0))).1, ((l.getD i.toNat (0, (0, 0))).2).1)]), .box b10 24 [.int .i64 n, v48]] := H
   refine ⟨fun h => absurd h (by decide), ?_⟩
   refine m_end ?_
   refine hK44 _ _ ?_
   refine go_seq fun K52 hK52 => ?_
   have H0 := H
   have hM0 := H0.keeps none (.inl rfl)
   refine region_mix (But w51 none) [0, 1, 2, 3, 4, 5, 6, 7, 8] 11 ?_
   replace H := H.drawn; have hD := But.drew w51 none
   generalize ({ w51 with drawn := w51.drawn + 1 } : World) = w53 at H hD ⊢
   refine m_take (n := 2) [0, 1, 2, 3, 4, 5, 6, 7, 8] #[true, true, true, true, true, true, true, true, true, false, false] [(93, iv n), (98, iv ((l.getD i.toNat (0, (0, 0))).1)), (100, iv (max n (((l.getD i.toNat (0, (0, 0))).1) + 1)))] [(0, vl), (3, pv b10), (4, iv i), (100, iv (max n (((l.getD i.toNat (0, (0, 0))).1) + 1)))] ((0 < Try.prog.cellsOf 3) ∧ (CellOk (But w51 none) b10 (0 + 0) (.int .i64 n)) ∧ TT ∧ TT ∧ ((Try.prog.info? 113).isSome = true ∧ IdxOk vl i) ∧ (0 < Try.prog.cellsOf 3) ∧ (CellOk (But w51 none) (hdB vl) (hdO vl + i.toNat * 3 + 0) (.int .i64 ((l.getD i.toNat (0, (0, 0))).1))) ∧ (InR .i64 (((l.getD i.toNat (0, (0, 0))).1) + 1)) ∧ (∀ ty w, (Builtin.max_ #[3, 3] ty [.int .i64 n, .int .i64 (((l.getD i.toNat (0, (0, 0))).1) + 1)].toArray).run Try.prog w = .ok (.int .i64 (max n (((l.getD i.toNat (0, (0, 0))).1) + 1))) w) ∧ True) hA hD ⟨by decide +kernel, by exact box_cellC (box_atC H0 none 1 rfl (fun e => by cases e)) 0, tv, tv, ⟨by kernel_rfl, by exact idx_ok (H0.argT hL) (by omega) (by omega)⟩, by decide +kernel, by exact cell_flatC hM0 (i := i) (H0.argT hL) (by omega) (by omega) (0, (0, 0)) 0, ⟨by omega, by omega⟩, fun ty w => max_ok ty w, tv⟩ fun a hA => ?_
   refine m_one 9 ?_; refine q_one 9 [] [(0, vl), (3, pv b10), (4, iv i), (100, iv (max n (((l.getD i.toNat (0, (0, 0))).1) + 1))), (101, .pointer (some ⟨b10, 0 + 0, none⟩))] ((0 < Try.prog.cellsOf 3) ∧ True) hA H ⟨by decide +kernel, tv⟩ fun a w54 H hA hG => ?_
   refine ⟨fun h => absurd h (by decide), ?_⟩
   refine m_one 10 ?_; refine q_store 10 3 (.tmp 101) (.tmp 100) 1 b10 (0 + 0) 24 [.int .i64 n, v48] [.int .i64 (max n (((l.getD i.toNat (0, (0, 0))).1) + 1))] [.int .i64 (max n (((l.getD i.toNat (0, (0, 0))).1) + 1)), v48] (.int .i64 (max n (((l.getD i.toNat (0, (0, 0))).1) + 1))) [(0, vl), (3, pv b10), (4, iv i)] hA H rfl rfl (Nat.le_of_ble_eq_true (by kernel_rfl)) rfl (fun v hv => by simp only [List.mem_cons, List.not_mem_nil, or_false] at hv; rcases hv with rfl; exact rfl) fun a w55 H hA hG => ?_
   replace H : Fr _ _ _ [.row 99 v48 (e ++ [((l.getD i.toNat (0, (0, 0))).1, ((l.getD i.toNat (0, (0, 0))).2).1)]), .box b10 24 [.int .i64 (max n (((l.getD i.toNat (0, (0, 0))).1) + 1)), v48]] := H
   refine ⟨fun h => absurd h (by decide), ?_⟩
   refine m_end ?_
   refine hK52 _ _ ?_
   have H0 := H
   have hM0 := H0.keeps none (.inl rfl)
   refine region_mix (But w55 none) [0, 1, 2, 3, 4, 5, 6, 7, 8] 11 ?_
   replace H := H.drawn; have hD := But.drew w55 none
   generalize ({ w55 with drawn := w55.drawn + 1 } : World) = w56 at H hD ⊢
   refine m_take (n := 2) [0, 1, 2, 3, 4, 5, 6, 7, 8] #[true, true, true, true, true, true, true, true, true, false, false] [(103, iv (max n (((l.getD i.toNat (0, (0, 0))).1) + 1))), (108, iv (((l.getD i.toNat (0, (0, 0))).2).1)), (110, iv (max (max n (((l.getD i.toNat (0, (0, 0))).1) + 1)) ((((l.getD i.toNat (0, (0, 0))).2).1) + 1)))] [(0, vl), (3, pv b10), (4, iv i), (110, iv (max (max n (((l.getD i.toNat (0, (0, 0))).1) + 1)) ((((l.getD i.toNat (0, (0, 0))).2).1) + 1)))] ((0 < Try.prog.cellsOf 3) ∧ (CellOk (But w55 none) b10 (0 + 0) (.int .i64 (max n (((l.getD i.toNat (0, (0, 0))).1) + 1)))) ∧ TT ∧ TT ∧ ((Try.prog.info? 113).isSome = true ∧ IdxOk vl i) ∧ (0 < Try.prog.cellsOf 3) ∧ (CellOk (But w55 none) (hdB vl) (hdO vl + i.toNat * 3 + 1) (.int .i64 (((l.getD i.toNat (0, (0, 0))).2).1))) ∧ (InR .i64 ((((l.getD i.toNat (0, (0, 0))).2).1) + 1)) ∧ (∀ ty w, (Builtin.max_ #[3, 3] ty [.int .i64 (max n (((l.getD i.toNat (0, (0, 0))).1) + 1)), .int .i64 ((((l.getD i.toNat (0, (0, 0))).2).1) + 1)].toArray).run Try.prog w = .ok (.int .i64 (max (max n (((l.getD i.toNat (0, (0, 0))).1) + 1)) ((((l.getD i.toNat (0, (0, 0))).2).1) + 1))) w) ∧ True) hA hD ⟨by decide +kernel, by exact box_cellC (box_atC H0 none 1 rfl (fun e => by cases e)) 0, tv, tv, ⟨by kernel_rfl, by exact idx_ok (H0.argT hL) (by omega) (by omega)⟩, by decide +kernel, by exact cell_flatC hM0 (i := i) (H0.argT hL) (by omega) (by omega) (0, (0, 0)) 1, ⟨by omega, by omega⟩, fun ty w => max_ok ty w, tv⟩ fun a hA => ?_
   refine m_one 9 ?_; refine q_one 9 [] [(0, vl), (3, pv b10), (4, iv i), (110, iv (max (max n (((l.getD i.toNat (0, (0, 0))).1) + 1)) ((((l.getD i.toNat (0, (0, 0))).2).1) + 1))), (111, .pointer (some ⟨b10, 0 + 0, none⟩))] ((0 < Try.prog.cellsOf 3) ∧ True) hA H ⟨by decide +kernel, tv⟩ fun a w57 H hA hG => ?_
   refine ⟨fun h => absurd h (by decide), ?_⟩
   refine m_one 10 ?_; refine q_store 10 3 (.tmp 111) (.tmp 110) 1 b10 (0 + 0) 24 [.int .i64 (max n (((l.getD i.toNat (0, (0, 0))).1) + 1)), v48] [.int .i64 (max (max n (((l.getD i.toNat (0, (0, 0))).1) + 1)) ((((l.getD i.toNat (0, (0, 0))).2).1) + 1))] [.int .i64 (max (max n (((l.getD i.toNat (0, (0, 0))).1) + 1)) ((((l.getD i.toNat (0, (0, 0))).2).1) + 1)), v48] (.int .i64 (max (max n (((l.getD i.toNat (0, (0, 0))).1) + 1)) ((((l.getD i.toNat (0, (0, 0))).2).1) + 1))) [(0, vl), (3, pv b10), (4, iv i)] hA H rfl rfl (Nat.le_of_ble_eq_true (by kernel_rfl)) rfl (fun v hv => by simp only [List.mem_cons, List.not_mem_nil, or_false] at hv; rcases hv with rfl; exact rfl) fun a w58 H hA hG => ?_
   replace H : Fr _ _ _ [.row 99 v48 (e ++ [((l.getD i.toNat (0, (0, 0))).1, ((l.getD i.toNat (0, (0, 0))).2).1)]), .box b10 24 [.int .i64 (max (max n (((l.getD i.toNat (0, (0, 0))).1) + 1)) ((((l.getD i.toNat (0, (0, 0))).2).1) + 1)), v48]] := H
   refine ⟨fun h => absurd h (by decide), ?_⟩
   refine m_end ?_
   refine hK21 _ _ ?_
   refine q_reg [] [(0, vl), (3, pv b10), (4, iv (i + 1))] (TT ∧ (InR .i64 (i + 1)) ∧ TT ∧ True) hA H ⟨tv, ⟨by omega, by omega⟩, tv, tv⟩ fun a w59 hA H hG => ?_
   replace H := Fr.order [.row 99 v48 (e ++ [((l.getD i.toNat (0, (0, 0))).1, ((l.getD i.toNat (0, (0, 0))).2).1)]), .box b10 24 [.int .i64 (max (max n (((l.getD i.toNat (0, (0, 0))).1) + 1)) ((((l.getD i.toNat (0, (0, 0))).2).1) + 1)), v48]] [] H [0, 1] (by show List.Perm _ (List.range 2); decide)
   replace H : Fr _ _ _ [.row 99 v48 (e ++ [((l.getD i.toNat (0, (0, 0))).1, ((l.getD i.toNat (0, (0, 0))).2).1)]), .box b10 24 [.int .i64 (max (max n (((l.getD i.toNat (0, (0, 0))).1) + 1)) ((((l.getD i.toNat (0, (0, 0))).2).1) + 1)), v48]] := H
   refine ⟨(i + 1, max (max n (((l.getD i.toNat (0, (0, 0))).1) + 1)) ((((l.getD i.toNat (0, (0, 0))).2).1) + 1), v48, e ++ [((l.getD i.toNat (0, (0, 0))).1, ((l.getD i.toNat (0, (0, 0))).2).1)]), ⟨env_sub _ hA, ⟨_, H⟩, ?_⟩, ?_⟩
   · (try dsimp only); exact ⟨by omega, by omega, by (try simp only [List.length_append, List.length_cons, List.length_nil]); omega, fun j hj => if q : (j : Int) = i then (by rw [show j = i.toNat by omega]; exact hlk) else hok j (by omega), by rw [nK_snoc h0 (by omega), ← hn], by rw [eK_snoc h0 (by omega), ← he]⟩
   (try dsimp only); omega
 have hhb20 := of_decide_eq_false hb20
 refine go_exit 0 ?_
 refine hK12 _ _ ?_
 refine go_seq fun K60 hK60 => ?_
 refine go_seq fun K61 hK61 => ?_
 have hwh : okWh l := fun j hj => hok j (by omega)
 rw [List.take_of_length_le (by omega)] at hn he
 refine q_reg [(112, .agg #[.int .i64 n, ve]), (113, iv (rightE n e))] [(0, vl), (3, pv b10), (114, .bool (!decide (rightE n e = 0)))] (((Try.prog.info? 24).isSome = true ∧ RowOk (On w19) b10 (0) (Try.prog.cellsOf 24) #[.int .i64 n, ve]) ∧ (Callable Try.prog 27 ∧ CallOk Try.prog (On w19) 27 [.agg #[.int .i64 n, ve]].toArray (.int .i64 (rightE n e))) ∧ TT ∧ True) hA H ⟨⟨by kernel_rfl, by exact box_row H 1 rfl 0 2⟩, ⟨callable_of, callOk_of fun w hw => by exact rright_any n ve e w (by omega) (((H.on hw).out 0 rfl))⟩, tv, tv⟩ fun a w62 hA H hG => ?_
 refine hK61 _ _ ?_
 refine go_cond hA (.tmp 114) (!decide (rightE n e = 0)) (fun hb63 => ?_) (fun hb63 => ?_)
 · have hhb63 := of_decide_eq_false (nT hb63)
   refine go_seq fun K64 hK64 => ?_
   refine q_reg [] [(2, .bool false)] (TT ∧ True) hA H ⟨tv, tv⟩ fun a w65 hA H hG => ?_
   refine hK64 _ _ ?_
   refine go_ret_ ?_
   refine ret_one 2 (.bool false) hA ?_
   exact ans_b' (Eq.symm (by first | exact rk_big (by omega) | exact rk_not (by omega) (okLk_twice k0 (by omega) hhb63) | exact rk_not (i := i.toNat) (by omega) (okLk_no hhb63) | exact rk_err (by rw [← hn, ← he]; exact hhb63))) H.below
 have hhb63 := of_decide_eq_true (nF hb63)
 refine go_skip ?_
 refine hK60 _ _ ?_
 refine go_seq fun K66 hK66 => ?_
 have hr17 := hhb63
 refine q_reg [] [(0, vl), (3, pv b10), (6, (.slice none 0 0))] (TT ∧ True) hA H ⟨tv, tv⟩ fun a w67 hA H hG => ?_
 refine hK66 _ _ ?_
 refine go_seq fun K68 hK68 => ?_
 refine go_seq fun K69 hK69 => ?_
 refine q_reg [] [(0, vl), (3, pv b10), (6, (.slice none 0 0)), (7, iv 0)] (TT ∧ True) hA H ⟨tv, tv⟩ fun a w70 hA H hG => ?_
 refine hK69 _ _ ?_
 refine go_block 4 ?_
 replace H := H.newRow (α := Int) 3
 refine go_loop_ (Int × Value × List Int) (fun x_ a W => (fun (t : Int) (va : Value) (al : List Int) => EnvOk 131 a (keepEnv [(0, vl), (3, pv b10), (6, va), (7, iv t)]) ∧ (∃ S, Fr (org w) W S [.row 3 va al, .row 99 ve e, .box b10 24 [.int .i64 n, ve]]) ∧ 0 ≤ t ∧ t ≤ (l.length : Int) ∧ al = upto t) x_.1 x_.2.1 x_.2.2) (fun x_ => (fun (t : Int) (va : Value) (al : List Int) => ((l.length : Int) - t).toNat) x_.1 x_.2.1 x_.2.2) (0, .slice none 0 0, []) ?_ (fun x_ a w72 hI => ?_)
 · (try dsimp only); exact ⟨env_sub _ hA, ⟨_, H⟩, by omega, by omega, rfl⟩
 obtain ⟨t, va, al⟩ := x_
 obtain ⟨hA, ⟨S, H⟩, t0, t0b, hal⟩ := hI
 try dsimp only at t0 t0b hal
 replace H : Fr _ _ _ [.row 3 va al, .row 99 ve e, .box b10 24 [.int .i64 n, ve]] := H
 have hall : al.length = t.toNat := by rw [hal, upto_len]
 refine go_seq fun K73 hK73 => ?_
 refine go_seq fun K74 hK74 => ?_
 refine q_reg [(117, iv (l.length : Int))] [(0, vl), (3, pv b10), (6, va), (7, iv t), (118, .bool (decide (t < (l.length : Int))))] (TT ∧ TT ∧ (LenOk vl (l.length : Int)) ∧ TT ∧ True) hA H ⟨tv, tv, by exact len_ok (H.arg hL), tv, tv⟩ fun a w75 hA H hG => ?_
 refine hK74 _ _ ?_
 refine go_cond hA (.tmp 118) (decide (t < (l.length : Int))) (fun hb76 => ?_) (fun hb76 => ?_)
 · have hhb76 := of_decide_eq_true hb76
   refine go_skip ?_
   refine hK73 _ _ ?_
   refine go_seq fun K77 hK77 => ?_
   refine go_block 5 ?_
   refine region_list ?_
   refine q_list 0 2 [] [(0, vl), (3, pv b10), (7, iv t), (121, va), (122, iv t)] (TT ∧ TT ∧ True) hA H ⟨tv, tv, tv⟩ fun a w78 hA H hG => ?_
   refine list_at 2 ?_; refine q_lit 2 123 27 1 #[(0, .tmp 122)] 3 [(0, iv t)] [.int .i64 t] [(0, vl), (3, pv b10), (7, iv t), (121, va)] hA H fun b79 a w80 H hA hG hge_b79 => ?_
   clear hge_b79
   refine list_at 3 ?_; refine q_push 3 124 (.tmp 121) (.tmp 123) 1 0 b79 1 1 va al [t] [.int .i64 t] [(0, vl), (3, pv b10), (7, iv t)] hA H Try.E27 rfl rfl (by exact (RowRd.single (α := Int) rfl)) rfl (by simp only [List.length_cons, List.length_nil, List.length_append]; omega) (by decide) fun v81 a w82 H hA hG => ?_
   replace H : Fr _ _ _ [.row 3 v81 (al ++ [t]), .row 99 ve e, .box b10 24 [.int .i64 n, ve]] := H.drop 0
   refine q_list 4 1 [] [(0, vl), (3, pv b10), (6, v81), (7, iv t)] (TT ∧ True) hA H ⟨tv, tv⟩ fun a w83 hA H hG => ?_
   refine list_end ?_
   refine hK77 _ _ ?_
   refine q_reg [] [(0, vl), (3, pv b10), (6, v81), (7, iv (t + 1))] (TT ∧ (InR .i64 (t + 1)) ∧ TT ∧ True) hA H ⟨tv, ⟨by omega, by omega⟩, tv, tv⟩ fun a w84 hA H hG => ?_
   refine ⟨(t + 1, v81, al ++ [t]), ⟨env_sub _ hA, ⟨_, H⟩, ?_⟩, ?_⟩
   · (try dsimp only); exact ⟨by omega, by omega, by rw [hal, upto_succ t0]⟩
   (try dsimp only); omega
 have hhb76 := of_decide_eq_false hb76
 refine go_exit 4 ?_
 refine hK68 _ _ ?_
 refine go_seq fun K85 hK85 => ?_
 have hre : rightE (nK l) (eK l) = 0 := by rw [← hn, ← he]; exact hr17
 rw [show t = (l.length : Int) by omega] at hal
 have hpt : partE n e (vertsL l) al = 0 := by rw [hn, he, hal]; exact part_K hre
 have H0 := H
 have hM0 := H0.keeps none (.inl rfl)
 refine region_mix (But w75 none) [0, 1, 2, 3, 4, 5] 7 ?_
 replace H := H.drawn; have hD := But.drew w75 none
 generalize ({ w75 with drawn := w75.drawn + 1 } : World) = w86 at H hD ⊢
 refine m_take (n := 4) [0, 1, 3] #[true, true, false, true, false, false, false] [(125, .agg #[.int .i64 n, ve])] [(125, .agg #[.int .i64 n, ve]), (126, vl), (128, va)] (((Try.prog.info? 24).isSome = true ∧ RowOk (But w75 none) b10 (0) (Try.prog.cellsOf 24) #[.int .i64 n, ve]) ∧ TT ∧ TT ∧ True) hA hD ⟨⟨by kernel_rfl, by exact box_rowC (box_atC H0 none 2 rfl (fun e => by cases e)) 0 2⟩, tv, tv, tv⟩ fun a hA => ?_
 refine m_one 2 ?_; refine q_call 2 127 58 #[.tmp 126] #[66] [vl] (fun S v_ w' => Rd S w' v_ (vertsL l)) [(125, .agg #[.int .i64 n, ve]), (128, va)] hA H (by exact rverts_any vl l H.at ((H.arg hL)) (by omega)) fun v87 a w88 S hR89 H hA hG => ?_
 replace H := H.ro hR89
 replace hD := hD.below hG
 refine ⟨fun _ => hD, ?_⟩
 refine m_take (n := 2) [4] #[true, true, true, true, true, false, false] [(129, .agg #[v87, va])] [(125, .agg #[.int .i64 n, ve]), (129, .agg #[v87, va])] ((∀ w, (Instr.build 29 #[(0, v87), (1, va)]).run Try.prog w = .ok (.agg #[v87, va]) w) ∧ True) hA hD ⟨fun w => by obtain ⟨_, _, _, e0⟩ := rd_form (H.get 0 rfl); rw [e0]; obtain ⟨_, _, _, e1⟩ := rd_form (H.out 1 rfl); rw [e1]; kernel_rfl, tv⟩ fun a hA => ?_
 refine m_one 5 ?_; refine q_one 5 [(130, .bool (solidB n e (vertsL l) al))] [(130, .bool (solidB n e (vertsL l) al))] ((Callable Try.prog 88 ∧ CallOk Try.prog (On w88) 88 [.agg #[.int .i64 n, ve], .agg #[v87, va]].toArray (.bool (solidB n e (vertsL l) al))) ∧ True) hA H ⟨⟨callable_of, callOk_of fun w hw => by exact rsolid_any n ve e v87 va (vertsL l) al w (by omega) (((H.on hw).out 2 rfl)) (((H.on hw).get 0 rfl)) (((H.on hw).out 1 rfl)) hpt⟩, tv⟩ fun a w91 H hA hG => ?_
 replace hD := hD.below hG
 refine ⟨fun _ => hD, ?_⟩
 refine m_one 6 ?_; refine q_one 6 [] [(2, .bool (solidB n e (vertsL l) al))] (TT ∧ True) hA H ⟨tv, tv⟩ fun a w92 H hA hG => ?_
 refine ⟨fun h => absurd h (by decide), ?_⟩
 refine m_end ?_
 refine hK85 _ _ ?_
 refine go_ret_ ?_
 refine ret_one 2 (.bool (solidB n e (vertsL l) al)) hA ?_
 exact ans_b' (by rw [rk_ok hwh hre, hn, he, hal]) H.below
theorem rring_any (vl : Value) (l : List (Int × Int × Int)) (w : World) (hL : Rd (· < w.heap.size) w vl l) (hs : l.length ≤ 100000) :
 Calls Try.prog 93 [vl].toArray w (Ans (.bool (ringR l)) w) := by
 refine enter Try.f93 14 Try.func93 fun a hA => ?_
 replace hA := env_sub [(0, vl)] hA
 have H := Fr.start (org w)
 refine go_seq fun K1 hK1 => ?_
 refine q_reg [] [(0, vl)] (TT ∧ True) hA H ⟨tv, tv⟩ fun a w2 hA H hG => ?_
 refine hK1 _ _ ?_
 refine go_seq fun K3 hK3 => ?_
 refine region_list ?_
 refine q_list 0 4 [(4, iv (l.length : Int))] [(0, vl), (6, .bool (decide ((2 : Int) ≤ (l.length : Int))))] (TT ∧ (LenOk vl (l.length : Int)) ∧ TT ∧ TT ∧ True) hA H ⟨tv, by exact len_ok (H.arg hL), tv, tv, tv⟩ fun a w4 hA H hG => ?_
 rcases bool_two (decide ((2 : Int) ≤ (l.length : Int))) with hb5 | hb5
 · have hhb5 := of_decide_eq_true hb5
   refine q_listK [(6, true)] 4 1 [] [(0, vl), (6, .bool (decide ((2 : Int) ≤ (l.length : Int)))), (7, vl)] (((((decide ((2 : Int) ≤ (l.length : Int))) = true) ∧ True) ∧ (True)) ∧ True) hA H ⟨⟨⟨hb5, tv⟩, tv⟩, tv⟩ fun a w6 hA H hG => ?_
   refine list_at 5 ?_; refine op_on [(6, true)] (((decide ((2 : Int) ≤ (l.length : Int))) = true) ∧ True) hA ⟨hb5, tv⟩ ?_; refine q_call 5 8 58 #[.tmp 7] #[66] [vl] (fun S v_ w' => Rd S w' v_ (vertsL l)) [(0, vl), (6, .bool (decide ((2 : Int) ≤ (l.length : Int))))] hA H (by exact rverts_any vl l H.at ((H.arg hL)) (by omega)) fun v7 a w8 S hR9 H hA hG => ?_
   replace H := H.ro hR9
   refine q_listK [(6, true)] 6 6 [(9, iv ((vertsL l).length : Int)), (11, iv (l.length : Int))] [(2, .bool (decide (((vertsL l).length : Int) = (l.length : Int))))] (((((decide ((2 : Int) ≤ (l.length : Int))) = true) ∧ True) ∧ (LenOk v7 ((vertsL l).length : Int))) ∧ ((((decide ((2 : Int) ≤ (l.length : Int))) = true) ∧ True) ∧ (True)) ∧ ((((decide ((2 : Int) ≤ (l.length : Int))) = true) ∧ True) ∧ (LenOk vl (l.length : Int))) ∧ ((((decide ((2 : Int) ≤ (l.length : Int))) = true) ∧ True) ∧ (True)) ∧ (TT ∧ ((decide ((2 : Int) ≤ (l.length : Int))) = true)) ∧ (TT ∧ (True)) ∧ True) hA H ⟨⟨⟨hb5, tv⟩, by exact len_ok (H.get 0 rfl)⟩, ⟨⟨hb5, tv⟩, tv⟩, ⟨⟨hb5, tv⟩, by exact len_ok (H.arg hL)⟩, ⟨⟨hb5, tv⟩, tv⟩, ⟨tv, hb5⟩, ⟨tv, tv⟩, tv⟩ fun a w11 hA H hG => ?_
   refine list_end ?_
   refine hK3 _ _ ?_
   refine go_ret_ ?_
   refine ret_one 2 (.bool (decide (((vertsL l).length : Int) = (l.length : Int)))) hA ?_
   exact ans_b' (by unfold ringR; rw [decide_eq_true hhb5]; rfl) H.below
 have hhb5 := of_decide_eq_false hb5
 refine q_listK [(6, false)] 4 1 [] [(0, vl), (6, .bool (decide ((2 : Int) ≤ (l.length : Int))))] ((((decide ((2 : Int) ≤ (l.length : Int))) = false)) ∧ True) hA H ⟨hb5, tv⟩ fun a w12 hA H hG => ?_
 refine list_at 5 ?_; refine op_off [(6, false)] [(0, vl), (6, .bool (decide ((2 : Int) ≤ (l.length : Int))))] (((decide ((2 : Int) ≤ (l.length : Int))) = false)) hA hb5 fun a hA => ?_
 refine q_listK [(6, false)] 6 6 [] [(2, .bool false)] ((((decide ((2 : Int) ≤ (l.length : Int))) = false)) ∧ (((decide ((2 : Int) ≤ (l.length : Int))) = false)) ∧ (((decide ((2 : Int) ≤ (l.length : Int))) = false)) ∧ (((decide ((2 : Int) ≤ (l.length : Int))) = false)) ∧ (TT ∧ ((decide ((2 : Int) ≤ (l.length : Int))) = false)) ∧ (TT ∧ (True)) ∧ True) hA H ⟨hb5, hb5, hb5, hb5, ⟨tv, hb5⟩, ⟨tv, tv⟩, tv⟩ fun a w13 hA H hG => ?_
 refine list_end ?_
 refine hK3 _ _ ?_
 refine go_ret_ ?_
 refine ret_one 2 (.bool false) hA ?_
 exact ans_b' (by unfold ringR; rw [decide_eq_false hhb5]; rfl) H.below
theorem rsplits_any (vl : Value) (l : List (Int × Int × Int)) (o : Orig) (hL : Rd (· < o.w.heap.size) o.w vl l) (hs : l.length ≤ 100) (hwf : WfL l) :
 Calls Try.prog 66 [vl].toArray o.w (Giv o (fun S v w' => Rd S w' v (splitsR l))) := by
 have hvl := verts_len l
 have hvb := verts_wf hwf
 have htl := spU_len hs (vertsL l) (by omega)
 refine enter Try.f66 77 Try.func66 fun a hA => ?_
 replace hA := env_sub [(0, vl)] hA
 have H := Fr.start o
 refine go_seq fun K1 hK1 => ?_
 refine q_reg [] [(0, vl)] (TT ∧ True) hA H ⟨tv, tv⟩ fun a w2 hA H hG => ?_
 refine hK1 _ _ ?_
 refine go_seq fun K3 hK3 => ?_
 refine q_reg [] [(0, vl), (3, (.slice none 0 0))] (TT ∧ True) hA H ⟨tv, tv⟩ fun a w4 hA H hG => ?_
 refine hK3 _ _ ?_
 refine go_seq fun K5 hK5 => ?_
 refine region_list ?_
 refine q_list 0 1 [] [(0, vl), (3, (.slice none 0 0)), (9, vl)] (TT ∧ True) hA H ⟨tv, tv⟩ fun a w6 hA H hG => ?_
 refine list_at 1 ?_; refine q_call 1 10 58 #[.tmp 9] #[66] [vl] (fun S v_ w' => Rd S w' v_ (vertsL l)) [(0, vl), (3, (.slice none 0 0))] hA H (by exact rverts_any vl l H.at ((H.arg hL)) (by omega)) fun v7 a w8 S hR9 H hA hG => ?_
 replace H := H.ro hR9
 refine q_list 2 1 [] [(0, vl), (3, (.slice none 0 0)), (4, v7)] (TT ∧ True) hA H ⟨tv, tv⟩ fun a w11 hA H hG => ?_
 refine list_end ?_
 refine hK5 _ _ ?_
 refine go_seq fun K12 hK12 => ?_
 refine go_seq fun K13 hK13 => ?_
 refine q_reg [(12, .bool (ringR l))] [(0, vl), (3, (.slice none 0 0)), (4, v7), (12, .bool (ringR l))] (TT ∧ (Callable Try.prog 93 ∧ CallOk Try.prog (On w11) 93 [vl].toArray (.bool (ringR l))) ∧ True) hA H ⟨tv, ⟨callable_of, callOk_of fun w hw => by exact rring_any vl l w (((H.on hw).arg hL)) (by omega)⟩, tv⟩ fun a w14 hA H hG => ?_
 refine hK13 _ _ ?_
 refine go_cond hA (.tmp 12) (ringR l) (fun hb15 => ?_) (fun hb15 => ?_)
 · have hhb15 := hb15
   refine go_seq fun K16 hK16 => ?_
   refine q_reg [] [(2, (.slice none 0 0))] (TT ∧ True) hA H ⟨tv, tv⟩ fun a w17 hA H hG => ?_
   refine hK16 _ _ ?_
   refine go_ret_ ?_
   refine ret_one 2 (.slice none 0 0) hA ?_
   exact ⟨_, rfl, by unfold splitsR; rw [if_pos hhb15]; exact rd_nil, H.below⟩
 have hhb15 := hb15
 refine go_skip ?_
 refine hK12 _ _ ?_
 refine go_seq fun K18 hK18 => ?_
 refine go_seq fun K19 hK19 => ?_
 have hrg : ringR l = false := by simpa using hhb15
 refine q_reg [] [(0, vl), (3, (.slice none 0 0)), (4, v7), (5, iv 0)] (TT ∧ True) hA H ⟨tv, tv⟩ fun a w20 hA H hG => ?_
 refine hK19 _ _ ?_
 refine go_block 0 ?_
 replace H := H.newRow (α := Int × Int × List Int) 87
 refine go_loop_ (Int × Value × List (Int × Int × List Int)) (fun x_ a W => (fun (i : Int) (vo : Value) (out : List (Int × Int × List Int)) => EnvOk 77 a (keepEnv [(0, vl), (3, vo), (4, v7), (5, iv i)]) ∧ (∃ S, Fr o W S [.row 87 vo out, .ro v7 (vertsL l)]) ∧ 0 ≤ i ∧ i ≤ ((vertsL l).length : Int) ∧ out ++ spU l ((vertsL l).drop i.toNat) = spU l (vertsL l)) x_.1 x_.2.1 x_.2.2) (fun x_ => (fun (i : Int) (vo : Value) (out : List (Int × Int × List Int)) => (((vertsL l).length : Int) - i).toNat) x_.1 x_.2.1 x_.2.2) (0, .slice none 0 0, []) ?_ (fun x_ a w22 hI => ?_)
 · (try dsimp only); exact ⟨env_sub _ hA, ⟨_, H⟩, by omega, by omega, rfl⟩
 obtain ⟨i, vo, out⟩ := x_
 obtain ⟨hA, ⟨S, H⟩, h0, h0b, hi⟩ := hI
 try dsimp only at h0 h0b hi
 replace H : Fr _ _ _ [.row 87 vo out, .ro v7 (vertsL l)] := H
 refine go_seq fun K23 hK23 => ?_
 refine go_seq fun K24 hK24 => ?_
 refine q_reg [(15, iv ((vertsL l).length : Int))] [(0, vl), (3, vo), (4, v7), (5, iv i), (16, .bool (decide (i < ((vertsL l).length : Int))))] (TT ∧ TT ∧ (LenOk v7 ((vertsL l).length : Int)) ∧ TT ∧ True) hA H ⟨tv, tv, by exact len_ok (H.get 1 rfl), tv, tv⟩ fun a w25 hA H hG => ?_
 refine hK24 _ _ ?_
 refine go_cond hA (.tmp 16) (decide (i < ((vertsL l).length : Int))) (fun hb26 => ?_) (fun hb26 => ?_)
 · have hhb26 := of_decide_eq_true hb26
   refine go_skip ?_
   refine hK23 _ _ ?_
   refine go_seq fun K27 hK27 => ?_
   refine go_block 1 ?_
   refine go_seq fun K28 hK28 => ?_
   refine q_reg [] [(0, vl), (3, vo), (4, v7), (5, iv i), (6, iv (i + 1))] (TT ∧ (InR .i64 (i + 1)) ∧ TT ∧ True) hA H ⟨tv, ⟨by omega, by omega⟩, tv, tv⟩ fun a w29 hA H hG => ?_
   refine hK28 _ _ ?_
   refine go_block 2 ?_
   refine go_loop_ (Int × Value × List (Int × Int × List Int)) (fun x_ a W => (fun (k : Int) (vo2 : Value) (out2 : List (Int × Int × List Int)) => EnvOk 77 a (keepEnv [(0, vl), (3, vo2), (4, v7), (5, iv i), (6, iv k)]) ∧ (∃ S, Fr o W S [.row 87 vo2 out2, .ro v7 (vertsL l)]) ∧ 0 ≤ k ∧ i + 1 ≤ k ∧ out2 ++ (candV l ((vertsL l).getD i.toNat 0) ((vertsL l).drop k.toNat) ++ spU l ((vertsL l).drop (i + 1).toNat)) = spU l (vertsL l)) x_.1 x_.2.1 x_.2.2) (fun x_ => (fun (k : Int) (vo2 : Value) (out2 : List (Int × Int × List Int)) => (((vertsL l).length : Int) - k).toNat) x_.1 x_.2.1 x_.2.2) (i + 1, vo, out) ?_ (fun x_ a w31 hI => ?_)
   · (try dsimp only); exact ⟨env_sub _ hA, ⟨_, H⟩, by omega, by omega, sp_u hi h0 (by omega)⟩
   obtain ⟨k, vo2, out2⟩ := x_
   obtain ⟨hA, ⟨S, H⟩, k0, k0b, hk⟩ := hI
   try dsimp only at k0 k0b hk
   replace H : Fr _ _ _ [.row 87 vo2 out2, .ro v7 (vertsL l)] := H
   refine go_seq fun K32 hK32 => ?_
   refine go_seq fun K33 hK33 => ?_
   refine q_reg [(23, iv ((vertsL l).length : Int))] [(0, vl), (3, vo2), (4, v7), (5, iv i), (6, iv k), (24, .bool (decide (k < ((vertsL l).length : Int))))] (TT ∧ TT ∧ (LenOk v7 ((vertsL l).length : Int)) ∧ TT ∧ True) hA H ⟨tv, tv, by exact len_ok (H.get 1 rfl), tv, tv⟩ fun a w34 hA H hG => ?_
   refine hK33 _ _ ?_
   refine go_cond hA (.tmp 24) (decide (k < ((vertsL l).length : Int))) (fun hb35 => ?_) (fun hb35 => ?_)
   · have hhb35 := of_decide_eq_true hb35
     refine go_skip ?_
     refine hK32 _ _ ?_
     refine go_seq fun K36 hK36 => ?_
     refine go_block 3 ?_
     refine go_seq fun K37 hK37 => ?_
     have hu9 := hvb _ (getD_mem (l := (vertsL l)) (i := i.toNat) (d := 0) (by omega)); have hv9 := hvb _ (getD_mem (l := (vertsL l)) (i := k.toNat) (d := 0) (by omega)); unfold wfI at hu9 hv9
     have hcl := classes_len l ((vertsL l).getD i.toNat 0) ((vertsL l).getD k.toNat 0)
     have H0 := H
     have hM0 := H0.keeps none (.inl rfl)
     refine region_mix (But w34 none) [0, 1, 2, 3, 4, 5, 6, 7, 8, 9] 11 ?_
     replace H := H.drawn; have hD := But.drew w34 none
     generalize ({ w34 with drawn := w34.drawn + 1 } : World) = w38 at H hD ⊢
     refine m_take (n := 2) [0, 1, 2, 3, 4, 5, 6, 7, 8] #[true, true, true, true, true, true, true, true, true, false, false] [(31, iv ((vertsL l).getD i.toNat 0)), (35, iv ((vertsL l).getD k.toNat 0))] [(0, vl), (3, vo2), (4, v7), (5, iv i), (6, iv k), (27, vl), (31, iv ((vertsL l).getD i.toNat 0)), (35, iv ((vertsL l).getD k.toNat 0))] (TT ∧ TT ∧ TT ∧ ((Try.prog.info? 3).isSome = true ∧ IdxOk v7 i) ∧ (CellOk (But w34 none) (hdB v7) (hdO v7 + i.toNat * 1) (.int .i64 ((vertsL l).getD i.toNat 0))) ∧ TT ∧ TT ∧ ((Try.prog.info? 3).isSome = true ∧ IdxOk v7 k) ∧ (CellOk (But w34 none) (hdB v7) (hdO v7 + k.toNat * 1) (.int .i64 ((vertsL l).getD k.toNat 0))) ∧ True) hA hD ⟨tv, tv, tv, ⟨by kernel_rfl, by exact idx_ok (H0.getT 1 rfl) (by omega) (by omega)⟩, by exact cell_flatC hM0 (i := i) (H0.getT 1 rfl) (by omega) (by omega) 0 0, tv, tv, ⟨by kernel_rfl, by exact idx_ok (H0.getT 1 rfl) (by omega) (by omega)⟩, by exact cell_flatC hM0 (i := k) (H0.getT 1 rfl) (by omega) (by omega) 0 0, tv⟩ fun a hA => ?_
     refine m_one 9 ?_; refine q_call 9 36 63 #[.tmp 27, .tmp 31, .tmp 35] #[66, 3, 3] [vl, .int .i64 ((vertsL l).getD i.toNat 0), .int .i64 ((vertsL l).getD k.toNat 0)] (fun S v_ w' => Rd S w' v_ ((classesL l ((vertsL l).getD i.toNat 0) ((vertsL l).getD k.toNat 0)))) [(0, vl), (3, vo2), (4, v7), (5, iv i), (6, iv k)] hA H (by exact rclasses_any vl l ((vertsL l).getD i.toNat 0) ((vertsL l).getD k.toNat 0) H.at ((H.arg hL)) (by omega) (by omega) (by omega)) fun v39 a w40 S hR41 H hA hG => ?_
     replace H := H.ro hR41
     replace hD := hD.below hG
     refine ⟨fun _ => hD, ?_⟩
     refine m_one 10 ?_; refine q_one 10 [] [(0, vl), (3, vo2), (4, v7), (5, iv i), (6, iv k), (7, v39)] (TT ∧ True) hA H ⟨tv, tv⟩ fun a w43 H hA hG => ?_
     refine ⟨fun h => absurd h (by decide), ?_⟩
     refine m_end ?_
     refine hK37 _ _ ?_
     refine go_seq fun K44 hK44 => ?_
     refine q_reg [] [(0, vl), (3, vo2), (4, v7), (5, iv i), (6, iv k), (7, v39), (8, iv 0)] (TT ∧ True) hA H ⟨tv, tv⟩ fun a w45 hA H hG => ?_
     refine hK44 _ _ ?_
     refine go_block 4 ?_
     replace H := Fr.order [.ro v39 (classesL l ((vertsL l).getD i.toNat 0) ((vertsL l).getD k.toNat 0)), .row 87 vo2 out2, .ro v7 (vertsL l)] [] H [1, 0, 2] (by show List.Perm _ (List.range 3); decide)
     replace H : Fr _ _ _ [.row 87 vo2 out2, .ro v39 (classesL l ((vertsL l).getD i.toNat 0) ((vertsL l).getD k.toNat 0)), .ro v7 (vertsL l)] := H
     refine go_loop_ (Int × Value × List (Int × Int × List Int)) (fun x_ a W => (fun (j : Int) (vo3 : Value) (out3 : List (Int × Int × List Int)) => EnvOk 77 a (keepEnv [(0, vl), (3, vo3), (4, v7), (5, iv i), (6, iv k), (7, v39), (8, iv j)]) ∧ (∃ S, Fr o W S [.row 87 vo3 out3, .ro v39 (classesL l ((vertsL l).getD i.toNat 0) ((vertsL l).getD k.toNat 0)), .ro v7 (vertsL l)]) ∧ 0 ≤ j ∧ j ≤ ((classesL l ((vertsL l).getD i.toNat 0) ((vertsL l).getD k.toNat 0)).length : Int) ∧ out3 ++ (candC l ((vertsL l).getD i.toNat 0) ((vertsL l).getD k.toNat 0) ((classesL l ((vertsL l).getD i.toNat 0) ((vertsL l).getD k.toNat 0)).drop j.toNat) ++ (candV l ((vertsL l).getD i.toNat 0) ((vertsL l).drop (k + 1).toNat) ++ spU l ((vertsL l).drop (i + 1).toNat))) = spU l (vertsL l)) x_.1 x_.2.1 x_.2.2) (fun x_ => (fun (j : Int) (vo3 : Value) (out3 : List (Int × Int × List Int)) => (((classesL l ((vertsL l).getD i.toNat 0) ((vertsL l).getD k.toNat 0)).length : Int) - j).toNat) x_.1 x_.2.1 x_.2.2) (0, vo2, out2) ?_ (fun x_ a w47 hI => ?_)
     · (try dsimp only); exact ⟨env_sub _ hA, ⟨_, H⟩, by omega, by omega, sp_v hk k0 (by omega)⟩
     obtain ⟨j, vo3, out3⟩ := x_
     obtain ⟨hA, ⟨S, H⟩, j0, j0b, hj⟩ := hI
     try dsimp only at j0 j0b hj
     replace H : Fr _ _ _ [.row 87 vo3 out3, .ro v39 (classesL l ((vertsL l).getD i.toNat 0) ((vertsL l).getD k.toNat 0)), .ro v7 (vertsL l)] := H
     have ho3 := spl_len hj
     refine go_seq fun K48 hK48 => ?_
     refine go_seq fun K49 hK49 => ?_
     refine q_reg [(39, iv ((classesL l ((vertsL l).getD i.toNat 0) ((vertsL l).getD k.toNat 0)).length : Int))] [(0, vl), (3, vo3), (4, v7), (5, iv i), (6, iv k), (7, v39), (8, iv j), (40, .bool (decide (j < ((classesL l ((vertsL l).getD i.toNat 0) ((vertsL l).getD k.toNat 0)).length : Int))))] (TT ∧ TT ∧ (LenOk v39 ((classesL l ((vertsL l).getD i.toNat 0) ((vertsL l).getD k.toNat 0)).length : Int)) ∧ TT ∧ True) hA H ⟨tv, tv, by exact len_ok (H.get 1 rfl), tv, tv⟩ fun a w50 hA H hG => ?_
     refine hK49 _ _ ?_
     refine go_cond hA (.tmp 40) (decide (j < ((classesL l ((vertsL l).getD i.toNat 0) ((vertsL l).getD k.toNat 0)).length : Int))) (fun hb51 => ?_) (fun hb51 => ?_)
     · have hhb51 := of_decide_eq_true hb51
       refine go_skip ?_
       refine hK48 _ _ ?_
       refine go_seq fun K52 hK52 => ?_
       refine go_block 5 ?_
       refine go_seq fun K53 hK53 => ?_
       have hkl := class_len (getD_mem (l := (classesL l ((vertsL l).getD i.toNat 0) ((vertsL l).getD k.toNat 0))) (i := j.toNat) (d := []) (by omega))
       obtain ⟨eu54, heu54c, heu54r⟩ := cell_sliceC (C := On w50) H.keepsS (H.getS 1 rfl) j
       replace H := (H.ro (heu54r (by omega) (by omega))).sink 1 3
       replace H : Fr _ _ _ [.row 87 vo3 out3, .ro v39 (classesL l ((vertsL l).getD i.toNat 0) ((vertsL l).getD k.toNat 0)), .ro v7 (vertsL l), .ro eu54 ((classesL l ((vertsL l).getD i.toNat 0) ((vertsL l).getD k.toNat 0)).getD j.toNat [])] := H
       obtain ⟨eu55, heu55c, heu55r⟩ := cell_sliceC (C := On w50) H.keepsS (H.getS 1 rfl) j
       refine q_reg [(46, eu54), (47, iv (((classesL l ((vertsL l).getD i.toNat 0) ((vertsL l).getD k.toNat 0)).getD j.toNat []).length : Int)), (51, iv (l.length : Int)), (55, eu55), (56, iv (((classesL l ((vertsL l).getD i.toNat 0) ((vertsL l).getD k.toNat 0)).getD j.toNat []).length : Int))] [(0, vl), (3, vo3), (4, v7), (5, iv i), (6, iv k), (7, v39), (8, iv j), (59, .bool ((decide ((2 : Int) ≤ (((classesL l ((vertsL l).getD i.toNat 0) ((vertsL l).getD k.toNat 0)).getD j.toNat []).length : Int))) && (decide ((2 : Int) ≤ (l.length : Int) - (((classesL l ((vertsL l).getD i.toNat 0) ((vertsL l).getD k.toNat 0)).getD j.toNat []).length : Int)))))] (TT ∧ TT ∧ ((Try.prog.info? 27).isSome = true ∧ IdxOk v39 j) ∧ (CellOk (On w50) (hdB v39) (hdO v39 + j.toNat * 1) (eu54)) ∧ (LenOk eu54 (((classesL l ((vertsL l).getD i.toNat 0) ((vertsL l).getD k.toNat 0)).getD j.toNat []).length : Int)) ∧ TT ∧ TT ∧ ((decide ((2 : Int) ≤ (((classesL l ((vertsL l).getD i.toNat 0) ((vertsL l).getD k.toNat 0)).getD j.toNat []).length : Int))) = true → True) ∧ ((decide ((2 : Int) ≤ (((classesL l ((vertsL l).getD i.toNat 0) ((vertsL l).getD k.toNat 0)).getD j.toNat []).length : Int))) = true → LenOk vl (l.length : Int)) ∧ ((decide ((2 : Int) ≤ (((classesL l ((vertsL l).getD i.toNat 0) ((vertsL l).getD k.toNat 0)).getD j.toNat []).length : Int))) = true → True) ∧ ((decide ((2 : Int) ≤ (((classesL l ((vertsL l).getD i.toNat 0) ((vertsL l).getD k.toNat 0)).getD j.toNat []).length : Int))) = true → True) ∧ ((decide ((2 : Int) ≤ (((classesL l ((vertsL l).getD i.toNat 0) ((vertsL l).getD k.toNat 0)).getD j.toNat []).length : Int))) = true → (Try.prog.info? 27).isSome = true ∧ IdxOk v39 j) ∧ ((decide ((2 : Int) ≤ (((classesL l ((vertsL l).getD i.toNat 0) ((vertsL l).getD k.toNat 0)).getD j.toNat []).length : Int))) = true → CellOk (On w50) (hdB v39) (hdO v39 + j.toNat * 1) (eu55)) ∧ ((decide ((2 : Int) ≤ (((classesL l ((vertsL l).getD i.toNat 0) ((vertsL l).getD k.toNat 0)).getD j.toNat []).length : Int))) = true → LenOk eu55 (((classesL l ((vertsL l).getD i.toNat 0) ((vertsL l).getD k.toNat 0)).getD j.toNat []).length : Int)) ∧ ((decide ((2 : Int) ≤ (((classesL l ((vertsL l).getD i.toNat 0) ((vertsL l).getD k.toNat 0)).getD j.toNat []).length : Int))) = true → InR .i64 ((l.length : Int) - (((classesL l ((vertsL l).getD i.toNat 0) ((vertsL l).getD k.toNat 0)).getD j.toNat []).length : Int))) ∧ ((decide ((2 : Int) ≤ (((classesL l ((vertsL l).getD i.toNat 0) ((vertsL l).getD k.toNat 0)).getD j.toNat []).length : Int))) = true → True) ∧ TT ∧ True) hA H ⟨tv, tv, ⟨by kernel_rfl, by exact idx_ok (H.get 1 rfl) (by omega) (by omega)⟩, by exact heu54c (by omega) (by omega), by exact len_ok (H.get 3 rfl), tv, tv, fun _ => tv, fun _ => by exact len_ok (H.arg hL), fun _ => tv, fun _ => tv, fun hg0 => by replace hg0 := of_decide_eq_true hg0; exact ⟨by kernel_rfl, by exact idx_ok (H.get 1 rfl) (by omega) (by omega)⟩, fun hg0 => by replace hg0 := of_decide_eq_true hg0; exact by exact heu55c (by omega) (by omega), fun hg0 => by replace hg0 := of_decide_eq_true hg0; exact by exact len_ok (Rd.up H.inb (heu55r (by omega) (by omega))), fun hg0 => by replace hg0 := of_decide_eq_true hg0; exact ⟨by omega, by omega⟩, fun _ => tv, tv, tv⟩ fun a w56 hA H hG => ?_
       refine hK53 _ _ ?_
       refine go_cond hA (.tmp 59) ((decide ((2 : Int) ≤ (((classesL l ((vertsL l).getD i.toNat 0) ((vertsL l).getD k.toNat 0)).getD j.toNat []).length : Int))) && (decide ((2 : Int) ≤ (l.length : Int) - (((classesL l ((vertsL l).getD i.toNat 0) ((vertsL l).getD k.toNat 0)).getD j.toNat []).length : Int)))) (fun hb57 => ?_) (fun hb57 => ?_)
       · have hhb57 := (⟨of_decide_eq_true ((aT hb57).1), of_decide_eq_true ((aT hb57).2)⟩ : _ ∧ _)
         have H0 := H
         have hM0 := H0.keeps vo3.ownBlock (.inr ⟨_, List.mem_of_getElem? (i := 0) rfl, rfl⟩)
         refine region_mix (But w56 vo3.ownBlock) [0, 1, 2, 3, 4, 5, 6, 7, 8, 9, 10, 11, 12, 13, 14, 15] 17 ?_
         replace H := H.drawn; have hD := But.drew w56 vo3.ownBlock
         generalize ({ w56 with drawn := w56.drawn + 1 } : World) = w58 at H hD ⊢
         obtain ⟨eu59, heu59c, heu59r⟩ := cell_sliceC (C := But w56 vo3.ownBlock) (keepsS2 hM0) (H0.getS 1 rfl) j
         replace H := (H.ro (Rd.keep (keepsS2 hM0 _ hD) (heu59r (by omega) (by omega)))).sink 1 4
         replace H : Fr _ _ _ [.row 87 vo3 out3, .ro v39 (classesL l ((vertsL l).getD i.toNat 0) ((vertsL l).getD k.toNat 0)), .ro v7 (vertsL l), .ro eu54 ((classesL l ((vertsL l).getD i.toNat 0) ((vertsL l).getD k.toNat 0)).getD j.toNat []), .ro eu59 ((classesL l ((vertsL l).getD i.toNat 0) ((vertsL l).getD k.toNat 0)).getD j.toNat [])] := H
         refine m_take (n := 3) [0, 1, 2, 3, 4, 5, 6, 7, 8, 9, 10, 11, 12, 13] #[true, true, true, true, true, true, true, true, true, true, true, true, true, true, false, false, false] [(64, iv ((vertsL l).getD i.toNat 0)), (68, iv ((vertsL l).getD k.toNat 0)), (72, eu59), (73, .agg #[.int .i64 ((vertsL l).getD i.toNat 0), .int .i64 ((vertsL l).getD k.toNat 0), eu59])] [(0, vl), (3, vo3), (4, v7), (5, iv i), (6, iv k), (7, v39), (8, iv j), (60, vo3), (73, .agg #[.int .i64 ((vertsL l).getD i.toNat 0), .int .i64 ((vertsL l).getD k.toNat 0), eu59])] (TT ∧ TT ∧ TT ∧ ((Try.prog.info? 3).isSome = true ∧ IdxOk v7 i) ∧ (CellOk (But w56 vo3.ownBlock) (hdB v7) (hdO v7 + i.toNat * 1) (.int .i64 ((vertsL l).getD i.toNat 0))) ∧ TT ∧ TT ∧ ((Try.prog.info? 3).isSome = true ∧ IdxOk v7 k) ∧ (CellOk (But w56 vo3.ownBlock) (hdB v7) (hdO v7 + k.toNat * 1) (.int .i64 ((vertsL l).getD k.toNat 0))) ∧ TT ∧ TT ∧ ((Try.prog.info? 27).isSome = true ∧ IdxOk v39 j) ∧ (CellOk (But w56 vo3.ownBlock) (hdB v39) (hdO v39 + j.toNat * 1) (eu59)) ∧ (∀ w, (Instr.build 87 #[(0, iv ((vertsL l).getD i.toNat 0)), (1, iv ((vertsL l).getD k.toNat 0)), (2, eu59)]).run Try.prog w = .ok (.agg #[.int .i64 ((vertsL l).getD i.toNat 0), .int .i64 ((vertsL l).getD k.toNat 0), eu59]) w) ∧ True) hA hD ⟨tv, tv, tv, ⟨by kernel_rfl, by exact idx_ok (H0.getT 2 rfl) (by omega) (by omega)⟩, by exact cell_flatC hM0 (i := i) (H0.getT 2 rfl) (by omega) (by omega) 0 0, tv, tv, ⟨by kernel_rfl, by exact idx_ok (H0.getT 2 rfl) (by omega) (by omega)⟩, by exact cell_flatC hM0 (i := k) (H0.getT 2 rfl) (by omega) (by omega) 0 0, tv, tv, ⟨by kernel_rfl, by exact idx_ok (H0.getT 1 rfl) (by omega) (by omega)⟩, by exact heu59c (by omega) (by omega), fun w => by obtain ⟨_, _, _, e0⟩ := rd_form (H.get 4 rfl); rw [e0]; kernel_rfl, tv⟩ fun a hA => ?_
         refine m_one 14 ?_; refine q_lit 14 74 84 1 #[(0, .tmp 73)] 87 [(0, .agg #[.int .i64 ((vertsL l).getD i.toNat 0), .int .i64 ((vertsL l).getD k.toNat 0), eu59])] [.int .i64 ((vertsL l).getD i.toNat 0), .int .i64 ((vertsL l).getD k.toNat 0), eu59] [(0, vl), (3, vo3), (4, v7), (5, iv i), (6, iv k), (7, v39), (8, iv j), (60, vo3)] hA H fun b60 a w61 H hA hG hge_b60 => ?_
         replace hge_b60 := Nat.le_trans hD.1 hge_b60
         replace hD := hD.below hG
         refine ⟨fun _ => hD, ?_⟩
         refine m_one 15 ?_; refine q_push 15 75 (.tmp 60) (.tmp 74) 1 0 b60 1 1 vo3 out3 [(((vertsL l).getD i.toNat 0), (((vertsL l).getD k.toNat 0), ((classesL l ((vertsL l).getD i.toNat 0) ((vertsL l).getD k.toNat 0)).getD j.toNat [])))] [.int .i64 ((vertsL l).getD i.toNat 0), .int .i64 ((vertsL l).getD k.toNat 0), eu59] [(0, vl), (3, vo3), (4, v7), (5, iv i), (6, iv k), (7, v39), (8, iv j)] hA H Try.E84 rfl rfl (by exact (RowRd.single (α := Int × Int × List (Int)) ⟨[_], _, rfl, rfl, ⟨[_], _, rfl, rfl, ⟨_, rfl, rd_slice (H.getS 5 rfl)⟩⟩⟩)) rfl (by simp only [List.length_cons, List.length_nil, List.length_append]; omega) (by decide) fun v62 a w63 H hA hG => ?_
         replace H : Fr _ _ _ [.row 87 v62 (out3 ++ [(((vertsL l).getD i.toNat 0), (((vertsL l).getD k.toNat 0), ((classesL l ((vertsL l).getD i.toNat 0) ((vertsL l).getD k.toNat 0)).getD j.toNat [])))]), .ro v39 (classesL l ((vertsL l).getD i.toNat 0) ((vertsL l).getD k.toNat 0)), .ro v7 (vertsL l), .ro eu54 ((classesL l ((vertsL l).getD i.toNat 0) ((vertsL l).getD k.toNat 0)).getD j.toNat []), .ro eu59 ((classesL l ((vertsL l).getD i.toNat 0) ((vertsL l).getD k.toNat 0)).getD j.toNat [])] := H.drop 0
         replace hD := hD.grown hG (fun b hb => .inl hb.symm)
         refine ⟨fun _ => hD, ?_⟩
         refine m_one 16 ?_; refine q_one 16 [] [(0, vl), (3, v62), (4, v7), (5, iv i), (6, iv k), (7, v39), (8, iv j)] (TT ∧ True) hA H ⟨tv, tv⟩ fun a w64 H hA hG => ?_
         refine ⟨fun h => absurd h (by decide), ?_⟩
         refine m_end ?_
         refine hK52 _ _ ?_
         refine q_reg [] [(0, vl), (3, v62), (4, v7), (5, iv i), (6, iv k), (7, v39), (8, iv (j + 1))] (TT ∧ (InR .i64 (j + 1)) ∧ TT ∧ True) hA H ⟨tv, ⟨by omega, by omega⟩, tv, tv⟩ fun a w65 hA H hG => ?_
         replace H := Fr.order [.row 87 v62 (out3 ++ [(((vertsL l).getD i.toNat 0), (((vertsL l).getD k.toNat 0), ((classesL l ((vertsL l).getD i.toNat 0) ((vertsL l).getD k.toNat 0)).getD j.toNat [])))]), .ro v39 (classesL l ((vertsL l).getD i.toNat 0) ((vertsL l).getD k.toNat 0)), .ro v7 (vertsL l), .ro eu54 ((classesL l ((vertsL l).getD i.toNat 0) ((vertsL l).getD k.toNat 0)).getD j.toNat []), .ro eu59 ((classesL l ((vertsL l).getD i.toNat 0) ((vertsL l).getD k.toNat 0)).getD j.toNat [])] [] H [0, 1, 2, 3, 4] (by show List.Perm _ (List.range 5); decide)
         replace H : Fr _ _ _ [.row 87 v62 (out3 ++ [(((vertsL l).getD i.toNat 0), (((vertsL l).getD k.toNat 0), ((classesL l ((vertsL l).getD i.toNat 0) ((vertsL l).getD k.toNat 0)).getD j.toNat [])))]), .ro v39 (classesL l ((vertsL l).getD i.toNat 0) ((vertsL l).getD k.toNat 0)), .ro v7 (vertsL l), .ro eu54 ((classesL l ((vertsL l).getD i.toNat 0) ((vertsL l).getD k.toNat 0)).getD j.toNat []), .ro eu59 ((classesL l ((vertsL l).getD i.toNat 0) ((vertsL l).getD k.toNat 0)).getD j.toNat [])] := H
         replace H := H.drop 4
         replace H := H.drop 3
         refine ⟨(j + 1, v62, out3 ++ [(((vertsL l).getD i.toNat 0), (((vertsL l).getD k.toNat 0), ((classesL l ((vertsL l).getD i.toNat 0) ((vertsL l).getD k.toNat 0)).getD j.toNat [])))]), ⟨env_sub _ hA, ⟨_, H⟩, ?_⟩, ?_⟩
         · (try dsimp only); exact ⟨by omega, by omega, sp_yes hj j0 (by omega) hb57⟩
         (try dsimp only); omega
       have hhb57 := (aF hb57).imp (fun h => of_decide_eq_false h) (fun h => of_decide_eq_false h)
       refine go_skip ?_
       refine hK52 _ _ ?_
       refine q_reg [] [(0, vl), (3, vo3), (4, v7), (5, iv i), (6, iv k), (7, v39), (8, iv (j + 1))] (TT ∧ (InR .i64 (j + 1)) ∧ TT ∧ True) hA H ⟨tv, ⟨by omega, by omega⟩, tv, tv⟩ fun a w66 hA H hG => ?_
       replace H := Fr.order [.row 87 vo3 out3, .ro v39 (classesL l ((vertsL l).getD i.toNat 0) ((vertsL l).getD k.toNat 0)), .ro v7 (vertsL l), .ro eu54 ((classesL l ((vertsL l).getD i.toNat 0) ((vertsL l).getD k.toNat 0)).getD j.toNat [])] [] H [0, 1, 2, 3] (by show List.Perm _ (List.range 4); decide)
       replace H : Fr _ _ _ [.row 87 vo3 out3, .ro v39 (classesL l ((vertsL l).getD i.toNat 0) ((vertsL l).getD k.toNat 0)), .ro v7 (vertsL l), .ro eu54 ((classesL l ((vertsL l).getD i.toNat 0) ((vertsL l).getD k.toNat 0)).getD j.toNat [])] := H
       replace H := H.drop 3
       refine ⟨(j + 1, vo3, out3), ⟨env_sub _ hA, ⟨_, H⟩, ?_⟩, ?_⟩
       · (try dsimp only); exact ⟨by omega, by omega, sp_no hj j0 (by omega) hb57⟩
       (try dsimp only); omega
     have hhb51 := of_decide_eq_false hb51
     refine go_exit 4 ?_
     refine hK36 _ _ ?_
     refine q_reg [] [(0, vl), (3, vo3), (4, v7), (5, iv i), (6, iv (k + 1))] (TT ∧ (InR .i64 (k + 1)) ∧ TT ∧ True) hA H ⟨tv, ⟨by omega, by omega⟩, tv, tv⟩ fun a w67 hA H hG => ?_
     replace H := Fr.order [.row 87 vo3 out3, .ro v39 (classesL l ((vertsL l).getD i.toNat 0) ((vertsL l).getD k.toNat 0)), .ro v7 (vertsL l)] [] H [0, 1, 2] (by show List.Perm _ (List.range 3); decide)
     replace H : Fr _ _ _ [.row 87 vo3 out3, .ro v39 (classesL l ((vertsL l).getD i.toNat 0) ((vertsL l).getD k.toNat 0)), .ro v7 (vertsL l)] := H
     replace H := H.drop 1
     refine ⟨(k + 1, vo3, out3), ⟨env_sub _ hA, ⟨_, H⟩, ?_⟩, ?_⟩
     · (try dsimp only); exact ⟨by omega, by omega, sp_cend hj (by omega)⟩
     (try dsimp only); omega
   have hhb35 := of_decide_eq_false hb35
   refine go_exit 2 ?_
   refine hK27 _ _ ?_
   refine q_reg [] [(0, vl), (3, vo2), (4, v7), (5, iv (i + 1))] (TT ∧ (InR .i64 (i + 1)) ∧ TT ∧ True) hA H ⟨tv, ⟨by omega, by omega⟩, tv, tv⟩ fun a w68 hA H hG => ?_
   replace H := Fr.order [.row 87 vo2 out2, .ro v7 (vertsL l)] [] H [0, 1] (by show List.Perm _ (List.range 2); decide)
   replace H : Fr _ _ _ [.row 87 vo2 out2, .ro v7 (vertsL l)] := H
   refine ⟨(i + 1, vo2, out2), ⟨env_sub _ hA, ⟨_, H⟩, ?_⟩, ?_⟩
   · (try dsimp only); exact ⟨by omega, by omega, sp_vend hk (by omega)⟩
   (try dsimp only); omega
 have hhb26 := of_decide_eq_false hb26
 refine go_exit 0 ?_
 refine hK18 _ _ ?_
 refine go_seq fun K69 hK69 => ?_
 refine q_reg [] [(2, vo)] (TT ∧ TT ∧ True) hA H ⟨tv, tv, tv⟩ fun a w70 hA H hG => ?_
 refine hK69 _ _ ?_
 refine go_ret_ ?_
 refine ret_one 2 vo hA ?_
 have ho := (H.give 0 rfl)
 rw [sp_uend hi (by omega)] at ho; exact ⟨_, rfl, by unfold splitsR; rw [hrg]; exact ho, H.below⟩
theorem rkind_any (vl : Value) (l : List (Int × Int × Int)) (w : World) (hL : Rd (· < w.heap.size) w vl l) (hs : l.length ≤ 100) (hwf : WfL l) :
 Calls Try.prog 67 [vl].toArray w (Ans (.int .i64 (kindR l)) w) := by
 have hvl := verts_len l
 refine enter Try.f67 20 Try.func67 fun a hA => ?_
 replace hA := env_sub [(0, vl)] hA
 have H := Fr.start (org w)
 refine go_seq fun K1 hK1 => ?_
 refine q_reg [] [(0, vl)] (TT ∧ True) hA H ⟨tv, tv⟩ fun a w2 hA H hG => ?_
 refine hK1 _ _ ?_
 refine go_seq fun K3 hK3 => ?_
 refine go_block 0 ?_
 refine go_seq fun K4 hK4 => ?_
 refine q_reg [(5, iv (l.length : Int))] [(0, vl), (3, .bool (decide ((l.length : Int) = 1)))] (TT ∧ (LenOk vl (l.length : Int)) ∧ TT ∧ TT ∧ True) hA H ⟨tv, by exact len_ok (H.arg hL), tv, tv, tv⟩ fun a w5 hA H hG => ?_
 refine hK4 _ _ ?_
 refine go_cond hA (.tmp 3) (decide ((l.length : Int) = 1)) (fun hb6 => ?_) (fun hb6 => ?_)
 · have hhb6 := of_decide_eq_true hb6
   refine go_seq fun K7 hK7 => ?_
   refine q_reg [] [(2, iv 0)] (TT ∧ True) hA H ⟨tv, tv⟩ fun a w8 hA H hG => ?_
   refine hK7 _ _ ?_
   refine go_ret_ ?_
   refine ret_one 2 (.int .i64 0) hA ?_
   exact ans_i' (by unfold kindR; rw [if_pos (by simpa using hhb6)]) H.below
 have hhb6 := of_decide_eq_false hb6
 refine go_seq fun K9 hK9 => ?_
 refine q_reg [(9, .bool (ringR l))] [(0, vl), (7, .bool (ringR l))] (TT ∧ (Callable Try.prog 93 ∧ CallOk Try.prog (On w5) 93 [vl].toArray (.bool (ringR l))) ∧ TT ∧ True) hA H ⟨tv, ⟨callable_of, callOk_of fun w hw => by exact rring_any vl l w (((H.on hw).arg hL)) (by omega)⟩, tv, tv⟩ fun a w10 hA H hG => ?_
 refine hK9 _ _ ?_
 refine go_cond hA (.tmp 7) (ringR l) (fun hb11 => ?_) (fun hb11 => ?_)
 · have hhb11 := hb11
   refine go_seq fun K12 hK12 => ?_
   refine q_reg [] [(2, iv 1)] (TT ∧ True) hA H ⟨tv, tv⟩ fun a w13 hA H hG => ?_
   refine hK12 _ _ ?_
   refine go_ret_ ?_
   refine ret_one 2 (.int .i64 1) hA ?_
   exact ans_i' (by unfold kindR; rw [if_neg (by simpa using hhb6), if_pos (by simpa using hhb11)]) H.below
 have hhb11 := hb11
 refine go_seq fun K14 hK14 => ?_
 refine region_list ?_
 refine q_list 0 1 [] [(0, vl), (11, vl)] (TT ∧ True) hA H ⟨tv, tv⟩ fun a w15 hA H hG => ?_
 refine list_at 1 ?_; refine q_call 1 12 58 #[.tmp 11] #[66] [vl] (fun S v_ w' => Rd S w' v_ (vertsL l)) [(0, vl)] hA H (by exact rverts_any vl l H.at ((H.arg hL)) (by omega)) fun v16 a w17 S hR18 H hA hG => ?_
 replace H := H.ro hR18
 refine q_list 2 3 [(13, iv ((vertsL l).length : Int))] [(0, vl), (10, .bool (decide (((vertsL l).length : Int) = 2)))] ((LenOk v16 ((vertsL l).length : Int)) ∧ TT ∧ TT ∧ True) hA H ⟨by exact len_ok (H.get 0 rfl), tv, tv, tv⟩ fun a w20 hA H hG => ?_
 refine list_end ?_
 refine hK14 _ _ ?_
 refine go_cond hA (.tmp 10) (decide (((vertsL l).length : Int) = 2)) (fun hb21 => ?_) (fun hb21 => ?_)
 · have hhb21 := of_decide_eq_true hb21
   refine go_seq fun K22 hK22 => ?_
   refine q_reg [] [(2, iv 2)] (TT ∧ True) hA H ⟨tv, tv⟩ fun a w23 hA H hG => ?_
   refine hK22 _ _ ?_
   refine go_ret_ ?_
   refine ret_one 2 (.int .i64 2) hA ?_
   exact ans_i' (by unfold kindR; rw [if_neg (by simpa using hhb6), if_neg (by simpa using hhb11), if_pos (by simpa using hhb21)]) H.below
 have hhb21 := of_decide_eq_false hb21
 refine go_seq fun K24 hK24 => ?_
 refine region_list ?_
 refine q_list 0 1 [] [(16, vl)] (TT ∧ True) hA H ⟨tv, tv⟩ fun a w25 hA H hG => ?_
 refine list_at 1 ?_; refine q_call 1 17 66 #[.tmp 16] #[66] [vl] (fun S v_ w' => Rd S w' v_ ((splitsR l))) [] hA H (by exact rsplits_any vl l H.at ((H.arg hL)) (by omega) hwf) fun v26 a w27 S hR28 H hA hG => ?_
 replace H := H.ro hR28
 refine q_list 2 3 [(18, iv ((splitsR l).length : Int))] [(15, .bool (decide (((splitsR l).length : Int) = 0)))] ((LenOk v26 ((splitsR l).length : Int)) ∧ TT ∧ TT ∧ True) hA H ⟨by exact len_ok (H.get 0 rfl), tv, tv, tv⟩ fun a w30 hA H hG => ?_
 refine list_end ?_
 refine hK24 _ _ ?_
 refine go_cond hA (.tmp 15) (decide (((splitsR l).length : Int) = 0)) (fun hb31 => ?_) (fun hb31 => ?_)
 · have hhb31 := of_decide_eq_true hb31
   refine go_seq fun K32 hK32 => ?_
   refine q_reg [] [(2, iv 3)] (TT ∧ True) hA H ⟨tv, tv⟩ fun a w33 hA H hG => ?_
   refine hK32 _ _ ?_
   refine go_ret_ ?_
   refine ret_one 2 (.int .i64 3) hA ?_
   exact ans_i' (by unfold kindR; rw [if_neg (by simpa using hhb6), if_neg (by simpa using hhb11), if_neg (by simpa using hhb21), if_pos (by simpa using hhb31)]) H.below
 have hhb31 := of_decide_eq_false hb31
 refine go_skip ?_
 refine hK3 _ _ ?_
 refine go_seq fun K34 hK34 => ?_
 refine q_reg [] [(2, iv 4)] (TT ∧ True) hA H ⟨tv, tv⟩ fun a w35 hA H hG => ?_
 refine hK34 _ _ ?_
 refine go_ret_ ?_
 refine ret_one 2 (.int .i64 4) hA ?_
 exact ans_i' (by unfold kindR; rw [if_neg (by simpa using hhb6), if_neg (by simpa using hhb11), if_neg (by simpa using hhb21), if_neg (by simpa using hhb31)]) H.below
def awL : List Lk := [(0, (1, 0)), (1, (2, 1)), (2, (3, 2)), (3, (0, 3)), (0, (2, 4))]
theorem awL_whole : wholeR awL = (((4, [(0, 1), (1, 2), (2, 3), (3, 0), (0, 2)]), ([0, 1, 2, 3], [0, 1, 2, 3, 4])), true) := by
 have h1 : okWh awL := by decide +kernel
 have h2 : rightE (nK awL) (eK awL) = 0 := by decide +kernel
 rw [wholeR_ok h1, spanE_ok h2 (by decide +kernel)]
 decide +kernel
theorem awL_first : firstK awL = some (0, (2, [0, 1])) := by
 unfold firstK rightK candU besK
 rw [awL_whole]
 decide +kernel
theorem awL_wf : WfL awL := by
 intro i h0 h1
 have h1 : i < 5 := h1
 have : i = 0 ∨ i = 1 ∨ i = 2 ∨ i = 3 ∨ i = 4 := by omega
 unfold wfI
 rcases this with rfl | rfl | rfl | rfl | rfl <;> decide +kernel
theorem aw_giv {S : Stab} {w : World} {v : Value} (h : ∃ sd, v = .tuple #[.agg #[.int .i64 (firstD awL).1, .int .i64 (firstD awL).2.1, sd], .bool (firstK awL).isSome] ∧ Rd S w sd (firstD awL).2.2) :
   ∃ sd, v = .tuple #[.agg #[.int .i64 0, .int .i64 2, sd], .bool true] ∧ Rd S w sd ([0, 1] : List Int) := by
 unfold firstD at h; rw [awL_first] at h; exact h
def offM (l : List Lk) (sd : List Int) (i : Int) : List Lk := ((upto i).filter fun j => decide (j ∈ sd)).map fun j => l.getD j.toNat (0, (0, 0))
def restM (l : List Lk) (sd : List Int) (i : Int) : List Lk := ((upto i).filter fun j => !decide (j ∈ sd)).map fun j => l.getD j.toNat (0, (0, 0))
end Go.Proofs.Ytahonnlgkmimlaa
