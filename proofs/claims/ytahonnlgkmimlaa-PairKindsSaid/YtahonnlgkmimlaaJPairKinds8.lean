/-
 Texts joined by program: WalkQ9, WalkQ10, PairK, PairL, PairM, PairN, PairO, PairP, PairQ, WalkQ14.
-/
import Derived.Test.YtahonnlgkmimlaaProg
import Derived.Test.YtahonnlgkmimlaaJPairKinds7
set_option linter.unusedSimpArgs false
set_option linter.unusedVariables false
set_option maxRecDepth 100000
set_option maxHeartbeats 8000000
namespace Go.Proofs.Ytahonnlgkmimlaa
open Go.RowKit
theorem of_any (vl : Value) (l : List (Int × Int × Int)) (o : Orig) (hL : Rd (· < o.w.heap.size) o.w vl l) (hs : l.length ≤ 100000) :
 Calls Try.prog 57 [vl].toArray o.w (Giv o (fun S v w' => Rd S w' v (l))) := by
 refine enter Try.f57 31 Try.func57 fun a hA => ?_
 replace hA := env_sub [(0, vl)] hA
 have H := Fr.start o
 refine go_seq fun K1 hK1 => ?_
 refine q_reg [] [(0, vl)] (TT ∧ True) hA H ⟨tv, tv⟩ fun a w2 hA H hG => ?_
 refine hK1 _ _ ?_
 refine go_seq fun K3 hK3 => ?_
 refine q_reg [] [(0, vl), (3, (.slice none 0 0))] (TT ∧ True) hA H ⟨tv, tv⟩ fun a w4 hA H hG => ?_
 refine hK3 _ _ ?_
 refine go_seq fun K5 hK5 => ?_
 refine go_seq fun K6 hK6 => ?_
 refine q_reg [] [(0, vl), (3, (.slice none 0 0)), (4, iv 0)] (TT ∧ True) hA H ⟨tv, tv⟩ fun a w7 hA H hG => ?_
 refine hK6 _ _ ?_
 refine go_block 0 ?_
 replace H := H.newRow (α := Int × Int × Int) 92
 refine go_loop_ (Int × Value × List (Int × Int × Int)) (fun x_ a W => (fun (i : Int) (vr : Value) (e : List (Int × Int × Int)) => EnvOk 31 a (keepEnv [(0, vl), (3, vr), (4, iv i)]) ∧ (∃ S, Fr o W S [.row 92 vr e]) ∧ 0 ≤ i ∧ i ≤ (l.length : Int) ∧ (e.length : Int) ≤ i ∧ e = l.take i.toNat) x_.1 x_.2.1 x_.2.2) (fun x_ => (fun (i : Int) (vr : Value) (e : List (Int × Int × Int)) => ((l.length : Int) - i).toNat) x_.1 x_.2.1 x_.2.2) (0, .slice none 0 0, []) ?_ (fun x_ a w9 hI => ?_)
 · (try dsimp only); exact ⟨env_sub _ hA, ⟨_, H⟩, by omega, by omega, by simp, by simp⟩
 obtain ⟨i, vr, e⟩ := x_
 obtain ⟨hA, ⟨S, H⟩, h0, h0b, h1, hi⟩ := hI
 try dsimp only at h0 h0b h1 hi
 replace H : Fr _ _ _ [.row 92 vr e] := H
 refine go_seq fun K10 hK10 => ?_
 refine go_seq fun K11 hK11 => ?_
 refine q_reg [(7, iv (l.length : Int))] [(0, vl), (3, vr), (4, iv i), (8, .bool (decide (i < (l.length : Int))))] (TT ∧ TT ∧ (LenOk vl (l.length : Int)) ∧ TT ∧ True) hA H ⟨tv, tv, by exact len_ok (H.arg hL), tv, tv⟩ fun a w12 hA H hG => ?_
 refine hK11 _ _ ?_
 refine go_cond hA (.tmp 8) (decide (i < (l.length : Int))) (fun hb13 => ?_) (fun hb13 => ?_)
 · have hhb13 := of_decide_eq_true hb13
   refine go_skip ?_
   refine hK10 _ _ ?_
   refine go_seq fun K14 hK14 => ?_
   refine go_block 1 ?_
   have H0 := H
   have hM0 := H0.keeps vr.ownBlock (.inr ⟨_, List.mem_of_getElem? (i := 0) rfl, rfl⟩)
   refine region_mix (But w12 vr.ownBlock) [0, 1, 2, 3, 4, 5, 6, 7, 8, 9, 10, 11, 12, 13, 14, 15, 16, 17, 18] 20 ?_
   replace H := H.drawn; have hD := But.drew w12 vr.ownBlock
   generalize ({ w12 with drawn := w12.drawn + 1 } : World) = w15 at H hD ⊢
   refine m_take (n := 3) [0, 1, 2, 3, 4, 5, 6, 7, 8, 9, 10, 11, 12, 13, 14, 15, 16] #[true, true, true, true, true, true, true, true, true, true, true, true, true, true, true, true, true, false, false, false] [(16, iv ((l.getD i.toNat (0, (0, 0))).1)), (21, iv (((l.getD i.toNat (0, (0, 0))).2).1)), (26, iv (((l.getD i.toNat (0, (0, 0))).2).2)), (27, .agg #[.int .i64 ((l.getD i.toNat (0, (0, 0))).1), .int .i64 (((l.getD i.toNat (0, (0, 0))).2).1), .int .i64 (((l.getD i.toNat (0, (0, 0))).2).2)])] [(0, vl), (3, vr), (4, iv i), (11, vr), (27, .agg #[.int .i64 ((l.getD i.toNat (0, (0, 0))).1), .int .i64 (((l.getD i.toNat (0, (0, 0))).2).1), .int .i64 (((l.getD i.toNat (0, (0, 0))).2).2)])] (TT ∧ TT ∧ TT ∧ ((Try.prog.info? 113).isSome = true ∧ IdxOk vl i) ∧ (0 < Try.prog.cellsOf 3) ∧ (CellOk (But w12 vr.ownBlock) (hdB vl) (hdO vl + i.toNat * 3 + 0) (.int .i64 ((l.getD i.toNat (0, (0, 0))).1))) ∧ TT ∧ TT ∧ ((Try.prog.info? 113).isSome = true ∧ IdxOk vl i) ∧ (0 < Try.prog.cellsOf 3) ∧ (CellOk (But w12 vr.ownBlock) (hdB vl) (hdO vl + i.toNat * 3 + 1) (.int .i64 (((l.getD i.toNat (0, (0, 0))).2).1))) ∧ TT ∧ TT ∧ ((Try.prog.info? 113).isSome = true ∧ IdxOk vl i) ∧ (0 < Try.prog.cellsOf 3) ∧ (CellOk (But w12 vr.ownBlock) (hdB vl) (hdO vl + i.toNat * 3 + 2) (.int .i64 (((l.getD i.toNat (0, (0, 0))).2).2))) ∧ (∀ w, (Instr.build 92 #[(0, iv ((l.getD i.toNat (0, (0, 0))).1)), (1, iv (((l.getD i.toNat (0, (0, 0))).2).1)), (2, iv (((l.getD i.toNat (0, (0, 0))).2).2))]).run Try.prog w = .ok (.agg #[.int .i64 ((l.getD i.toNat (0, (0, 0))).1), .int .i64 (((l.getD i.toNat (0, (0, 0))).2).1), .int .i64 (((l.getD i.toNat (0, (0, 0))).2).2)]) w) ∧ True) hA hD ⟨tv, tv, tv, ⟨by kernel_rfl, by exact idx_ok (H0.argT hL) (by omega) (by omega)⟩, by decide +kernel, by exact cell_flatC hM0 (i := i) (H0.argT hL) (by omega) (by omega) (0, (0, 0)) 0, tv, tv, ⟨by kernel_rfl, by exact idx_ok (H0.argT hL) (by omega) (by omega)⟩, by decide +kernel, by exact cell_flatC hM0 (i := i) (H0.argT hL) (by omega) (by omega) (0, (0, 0)) 1, tv, tv, ⟨by kernel_rfl, by exact idx_ok (H0.argT hL) (by omega) (by omega)⟩, by decide +kernel, by exact cell_flatC hM0 (i := i) (H0.argT hL) (by omega) (by omega) (0, (0, 0)) 2, fun w => by kernel_rfl, tv⟩ fun a hA => ?_
   refine m_one 17 ?_; refine q_lit 17 28 69 1 #[(0, .tmp 27)] 92 [(0, .agg #[.int .i64 ((l.getD i.toNat (0, (0, 0))).1), .int .i64 (((l.getD i.toNat (0, (0, 0))).2).1), .int .i64 (((l.getD i.toNat (0, (0, 0))).2).2)])] [.int .i64 ((l.getD i.toNat (0, (0, 0))).1), .int .i64 (((l.getD i.toNat (0, (0, 0))).2).1), .int .i64 (((l.getD i.toNat (0, (0, 0))).2).2)] [(0, vl), (3, vr), (4, iv i), (11, vr)] hA H fun b16 a w17 H hA hG hge_b16 => ?_
   replace hge_b16 := Nat.le_trans hD.1 hge_b16
   replace hD := hD.below hG
   refine ⟨fun _ => hD, ?_⟩
   refine m_one 18 ?_; refine q_push 18 29 (.tmp 11) (.tmp 28) 1 0 b16 1 1 vr e [((l.getD i.toNat (0, (0, 0))).1, (((l.getD i.toNat (0, (0, 0))).2).1, ((l.getD i.toNat (0, (0, 0))).2).2))] [.int .i64 ((l.getD i.toNat (0, (0, 0))).1), .int .i64 (((l.getD i.toNat (0, (0, 0))).2).1), .int .i64 (((l.getD i.toNat (0, (0, 0))).2).2)] [(0, vl), (3, vr), (4, iv i)] hA H Try.E69 rfl rfl (by exact (RowRd.single (α := Int × Int × Int) ⟨[_], _, rfl, rfl, ⟨[_], _, rfl, rfl, rfl⟩⟩)) rfl (by simp only [List.length_cons, List.length_nil, List.length_append]; omega) (by decide) fun v18 a w19 H hA hG => ?_
   replace H : Fr _ _ _ [.row 92 v18 (e ++ [((l.getD i.toNat (0, (0, 0))).1, (((l.getD i.toNat (0, (0, 0))).2).1, ((l.getD i.toNat (0, (0, 0))).2).2))])] := H.drop 0
   replace hD := hD.grown hG (fun b hb => .inl hb.symm)
   refine ⟨fun _ => hD, ?_⟩
   refine m_one 19 ?_; refine q_one 19 [] [(0, vl), (3, v18), (4, iv i)] (TT ∧ True) hA H ⟨tv, tv⟩ fun a w20 H hA hG => ?_
   refine ⟨fun h => absurd h (by decide), ?_⟩
   refine m_end ?_
   refine hK14 _ _ ?_
   refine q_reg [] [(0, vl), (3, v18), (4, iv (i + 1))] (TT ∧ (InR .i64 (i + 1)) ∧ TT ∧ True) hA H ⟨tv, ⟨by omega, by omega⟩, tv, tv⟩ fun a w21 hA H hG => ?_
   refine ⟨(i + 1, v18, e ++ [((l.getD i.toNat (0, (0, 0))).1, (((l.getD i.toNat (0, (0, 0))).2).1, ((l.getD i.toNat (0, (0, 0))).2).2))]), ⟨env_sub _ hA, ⟨_, H⟩, ?_⟩, ?_⟩
   · (try dsimp only); exact ⟨by omega, by omega, by (try simp only [List.length_append, List.length_cons, List.length_nil]); omega, by rw [take_snocK h0 (by omega), ← hi]⟩
   (try dsimp only); omega
 have hhb13 := of_decide_eq_false hb13
 refine go_exit 0 ?_
 refine hK5 _ _ ?_
 refine go_seq fun K22 hK22 => ?_
 refine q_reg [] [(2, vr)] (TT ∧ TT ∧ True) hA H ⟨tv, tv, tv⟩ fun a w23 hA H hG => ?_
 refine hK22 _ _ ?_
 refine go_ret_ ?_
 refine ret_one 2 vr hA ?_
 have ho := (H.give 0 rfl)
 rw [List.take_of_length_le (by omega)] at hi; rw [hi] at ho; exact ⟨_, rfl, ho, H.below⟩
theorem awakeP_any  (w : World) :
 Calls Try.prog 55 [].toArray w (Ans (.bool true) w) := by
 refine enter Try.f55 30 Try.func55 fun a hA => ?_
 replace hA := env_sub [] hA
 have H := Fr.start (org w)
 refine go_seq fun K1 hK1 => ?_
 refine q_reg [] [] (TT ∧ True) hA H ⟨tv, tv⟩ fun a w2 hA H hG => ?_
 refine hK1 _ _ ?_
 refine go_seq fun K3 hK3 => ?_
 refine region_list ?_
 refine q_list 0 5 [(4, .agg #[.int .i64 0, .int .i64 1, .int .i64 0]), (5, .agg #[.int .i64 1, .int .i64 2, .int .i64 1]), (6, .agg #[.int .i64 2, .int .i64 3, .int .i64 2]), (7, .agg #[.int .i64 3, .int .i64 0, .int .i64 3]), (8, .agg #[.int .i64 0, .int .i64 2, .int .i64 4])] [(4, .agg #[.int .i64 0, .int .i64 1, .int .i64 0]), (5, .agg #[.int .i64 1, .int .i64 2, .int .i64 1]), (6, .agg #[.int .i64 2, .int .i64 3, .int .i64 2]), (7, .agg #[.int .i64 3, .int .i64 0, .int .i64 3]), (8, .agg #[.int .i64 0, .int .i64 2, .int .i64 4])] ((∀ w, (Instr.build 92 #[(0, iv 0), (1, iv 1), (2, iv 0)]).run Try.prog w = .ok (.agg #[.int .i64 0, .int .i64 1, .int .i64 0]) w) ∧ (∀ w, (Instr.build 92 #[(0, iv 1), (1, iv 2), (2, iv 1)]).run Try.prog w = .ok (.agg #[.int .i64 1, .int .i64 2, .int .i64 1]) w) ∧ (∀ w, (Instr.build 92 #[(0, iv 2), (1, iv 3), (2, iv 2)]).run Try.prog w = .ok (.agg #[.int .i64 2, .int .i64 3, .int .i64 2]) w) ∧ (∀ w, (Instr.build 92 #[(0, iv 3), (1, iv 0), (2, iv 3)]).run Try.prog w = .ok (.agg #[.int .i64 3, .int .i64 0, .int .i64 3]) w) ∧ (∀ w, (Instr.build 92 #[(0, iv 0), (1, iv 2), (2, iv 4)]).run Try.prog w = .ok (.agg #[.int .i64 0, .int .i64 2, .int .i64 4]) w) ∧ True) hA H ⟨fun w => by kernel_rfl, fun w => by kernel_rfl, fun w => by kernel_rfl, fun w => by kernel_rfl, fun w => by kernel_rfl, tv⟩ fun a w4 hA H hG => ?_
 refine list_at 5 ?_; refine q_lit 5 9 69 5 #[(0, .tmp 4), (1, .tmp 5), (2, .tmp 6), (3, .tmp 7), (4, .tmp 8)] 92 [(0, .agg #[.int .i64 0, .int .i64 1, .int .i64 0]), (1, .agg #[.int .i64 1, .int .i64 2, .int .i64 1]), (2, .agg #[.int .i64 2, .int .i64 3, .int .i64 2]), (3, .agg #[.int .i64 3, .int .i64 0, .int .i64 3]), (4, .agg #[.int .i64 0, .int .i64 2, .int .i64 4])] [.int .i64 0, .int .i64 1, .int .i64 0, .int .i64 1, .int .i64 2, .int .i64 1, .int .i64 2, .int .i64 3, .int .i64 2, .int .i64 3, .int .i64 0, .int .i64 3, .int .i64 0, .int .i64 2, .int .i64 4] [] hA H fun b5 a w6 H hA hG hge_b5 => ?_
 clear hge_b5
 refine list_at 6 ?_; refine q_call 6 10 65 #[.tmp 9] #[69] [(.slice (some ⟨b5, 0, none⟩) 5 5)] (fun S v_ w' => ∃ sd, v_ = .tuple #[.agg #[.int .i64 0, .int .i64 2, sd], .bool true] ∧ Rd S w' sd ([0, 1] : List Int)) [] hA H (by exact ((first_any (.slice (some ⟨b5, 0, none⟩) 5 5) awL H.at ((H.lit 0 rfl (l := ([(0, (1, 0)), (1, (2, 1)), (2, (3, 2)), (3, (0, 3)), (0, (2, 4))] : List (Int × Int × Int))) (by exact (((((RowRd.single (α := Int × Int × Int) (a := (0, (1, 0))) (by exact ⟨[_], _, rfl, rfl, ⟨[_], _, rfl, rfl, rfl⟩⟩)).append (RowRd.single (α := Int × Int × Int) (a := (1, (2, 1))) (by exact ⟨[_], _, rfl, rfl, ⟨[_], _, rfl, rfl, rfl⟩⟩))).append (RowRd.single (α := Int × Int × Int) (a := (2, (3, 2))) (by exact ⟨[_], _, rfl, rfl, ⟨[_], _, rfl, rfl, rfl⟩⟩))).append (RowRd.single (α := Int × Int × Int) (a := (3, (0, 3))) (by exact ⟨[_], _, rfl, rfl, ⟨[_], _, rfl, rfl, rfl⟩⟩))).append (RowRd.single (α := Int × Int × Int) (a := (0, (2, 4))) (by exact ⟨[_], _, rfl, rfl, ⟨[_], _, rfl, rfl, rfl⟩⟩)))) (n := 5) rfl (by decide))) (by decide) awL_wf).mono fun e w' ⟨v, h1, h2, h3⟩ => ⟨v, h1, aw_giv h2, h3⟩)) fun v7 a w8 S hR9 H hA hG => ?_
 obtain ⟨v7s, rfl, hR9s⟩ := hR9
 replace H := H.ro hR9s
 replace H : Fr _ _ _ [.ro v7s ([0, 1] : List Int), .box b5 92 [.int .i64 0, .int .i64 1, .int .i64 0, .int .i64 1, .int .i64 2, .int .i64 1, .int .i64 2, .int .i64 3, .int .i64 2, .int .i64 3, .int .i64 0, .int .i64 3, .int .i64 0, .int .i64 2, .int .i64 4]] := H
 refine q_list 7 3 [] [(11, .agg #[.int .i64 0, .int .i64 2, v7s]), (12, .bool true)] (TT ∧ TT ∧ TT ∧ True) hA H ⟨tv, tv, tv, tv⟩ fun a w11 hA H hG => ?_
 refine list_at 10 ?_; refine q_alloc 10 1 81 [.int .i64 0, .int .i64 0, (.slice none 0 0)] [(11, .agg #[.int .i64 0, .int .i64 2, v7s]), (12, .bool true)] hA H fun b12 a w13 H hA hG hge_b12 => ?_
 clear hge_b12
 refine list_at 11 ?_; refine q_store 11 81 (.tmp 1) (.tmp 11) 0 b12 (0) 81 [.int .i64 0, .int .i64 0, (.slice none 0 0)] [.int .i64 0, .int .i64 2, v7s] [.int .i64 0, .int .i64 2, v7s] (.agg #[.int .i64 0, .int .i64 2, v7s]) [(1, pv b12), (12, .bool true)] hA H rfl rfl (Nat.le_of_ble_eq_true (by kernel_rfl)) rfl (fun v hv => by simp only [List.mem_cons, List.not_mem_nil, or_false] at hv; rcases hv with rfl | rfl | rfl; exact rfl; exact rfl; exact (rd_one (H.get 1 rfl))) fun a w14 H hA hG => ?_
 replace H : Fr _ _ _ [.box b12 81 [.int .i64 0, .int .i64 2, v7s], .ro v7s ([0, 1] : List Int), .box b5 92 [.int .i64 0, .int .i64 1, .int .i64 0, .int .i64 1, .int .i64 2, .int .i64 1, .int .i64 2, .int .i64 3, .int .i64 2, .int .i64 3, .int .i64 0, .int .i64 3, .int .i64 0, .int .i64 2, .int .i64 4]] := H
 refine q_list 12 1 [] [(1, pv b12), (2, .bool true)] (TT ∧ True) hA H ⟨tv, tv⟩ fun a w15 hA H hG => ?_
 refine list_end ?_
 refine hK3 _ _ ?_
 refine go_seq fun K16 hK16 => ?_
 refine region_list ?_
 refine q_list 0 12 [(16, iv 0), (21, iv 2)] [(1, pv b12), (24, .bool ((decide ((0 : Int) = 0)) && (decide ((2 : Int) = 2))))] (TT ∧ TT ∧ ((true) = true → 0 < Try.prog.cellsOf 3) ∧ ((true) = true → CellOk (On w15) b12 (0 + 0) (.int .i64 0)) ∧ ((true) = true → True) ∧ TT ∧ TT ∧ ((decide ((0 : Int) = 0)) = true → 0 < Try.prog.cellsOf 3) ∧ ((decide ((0 : Int) = 0)) = true → CellOk (On w15) b12 (0 + 1) (.int .i64 2)) ∧ ((decide ((0 : Int) = 0)) = true → True) ∧ TT ∧ TT ∧ True) hA H ⟨tv, tv, fun _ => by decide +kernel, fun _ => by exact box_cell H 0 rfl 0, fun _ => tv, tv, tv, fun _ => by decide +kernel, fun _ => by exact box_cell H 0 rfl 1, fun _ => tv, tv, tv, tv⟩ fun a w17 hA H hG => ?_
 refine q_listK [(24, true)] 12 2 [(26, v7s)] [(24, .bool ((decide ((0 : Int) = 0)) && (decide ((2 : Int) = 2)))), (26, v7s)] ((((((decide ((0 : Int) = 0)) && (decide ((2 : Int) = 2))) = true) ∧ True) ∧ (0 < Try.prog.cellsOf 27)) ∧ (((((decide ((0 : Int) = 0)) && (decide ((2 : Int) = 2))) = true) ∧ True) ∧ (CellOk (On w17) b12 (0 + 2) (v7s))) ∧ True) hA H ⟨⟨⟨(by simp []), tv⟩, by decide +kernel⟩, ⟨⟨(by simp []), tv⟩, by exact box_cell H 0 rfl 2⟩, tv⟩ fun a w18 hA H hG => ?_
 refine list_at 14 ?_; refine op_on [(24, true)] ((((decide ((0 : Int) = 0)) && (decide ((2 : Int) = 2))) = true) ∧ True) hA ⟨(by simp []), tv⟩ ?_; refine q_lit 14 27 27 2 #[(0, .const (.int .i64 0)), (1, .const (.int .i64 1))] 3 [(0, iv 0), (1, iv 1)] [.int .i64 0, .int .i64 1] [(24, .bool ((decide ((0 : Int) = 0)) && (decide ((2 : Int) = 2)))), (26, v7s)] hA H fun b19 a w20 H hA hG hge_b19 => ?_
 clear hge_b19
 refine q_listK [(24, true)] 15 3 [(28, .bool (decide (([0, 1] : List Int) = ([0, 1] : List Int))))] [(0, .bool (decide (([0, 1] : List Int) = ([0, 1] : List Int))))] ((((((decide ((0 : Int) = 0)) && (decide ((2 : Int) = 2))) = true) ∧ True) ∧ (Callable Try.prog 36 ∧ CallOk Try.prog (On w20) 36 [v7s, (.slice (some ⟨b19, 0, none⟩) 2 2)].toArray (.bool (decide (([0, 1] : List Int) = ([0, 1] : List Int)))))) ∧ (TT ∧ (((decide ((0 : Int) = 0)) && (decide ((2 : Int) = 2))) = true)) ∧ (TT ∧ (True)) ∧ True) hA H ⟨⟨⟨(by simp []), tv⟩, ⟨callable_of, callOk_of fun w hw => by exact requal_any v7s (.slice (some ⟨b19, 0, none⟩) 2 2) ([0, 1] : List Int) ([0, 1] : List Int) w (((H.on hw).get 2 rfl)) (((H.on hw).lit 0 rfl (l := ([0, 1] : List Int)) (by exact ((RowRd.single (α := Int) (a := 0) (by exact rfl)).append (RowRd.single (α := Int) (a := 1) (by exact rfl)))) (n := 2) rfl (by decide)))⟩⟩, ⟨tv, (by simp [])⟩, ⟨tv, tv⟩, tv⟩ fun a w21 hA H hG => ?_
 refine list_end ?_
 refine hK16 _ _ ?_
 refine go_ret_ ?_
 refine ret_one 0 (.bool (decide (([0, 1] : List Int) = ([0, 1] : List Int)))) hA ?_
 exact ans_b' (by decide +kernel) H.below
theorem verts_asc (l : List Lk) : Asc (vertsL l) := (compact_sort (endsK l)).1
theorem mem_verts {l : List Lk} {x : Int} : x ∈ vertsL l ↔ x ∈ endsK l := (compact_sort (endsK l)).2 x
theorem wfL_of {l : List Lk} (h : ∀ b ∈ l, (-9223372036854775808 ≤ b.1 ∧ b.1 ≤ 9223372036854775807) ∧ (-9223372036854775808 ≤ b.2.1 ∧ b.2.1 ≤ 9223372036854775807) ∧ (-9223372036854775808 ≤ b.2.2 ∧ b.2.2 ≤ 9223372036854775807)) : WfL l := by
 intro i h0 h1
 exact h _ (getD_mem (l := l) (i := i.toNat) (d := (0, (0, 0))) (by omega))
theorem len64 {v : Value} {l : List Lk} {w : World} {S : Stab} (h : Rd S w v l) : l.length ≤ 9223372036854775807 := by have := rd_len h; omega
section
variable {l : List Lk} {u v : Int} {c d : List Int}
theorem cls_form (h : c ∈ classesL l u v) : ∃ r, 0 ≤ r ∧ r < (l.length : Int) ∧ clR u v l r = r ∧ c = (upto (l.length : Int)).filter fun j => decide (clR u v l j = r) := by
 unfold classesL groupsR rootsTo at h
 obtain ⟨r, hr, rfl⟩ := List.mem_map.1 h
 obtain ⟨h1, h2⟩ := List.mem_filter.1 hr
 have h1 := mem_upto.1 h1
 exact ⟨r, h1.1, h1.2, of_decide_eq_true h2, rfl⟩
theorem cls_mem (h : c ∈ classesL l u v) : ∃ r, clR u v l r = r ∧ r ∈ c ∧ ∀ j, j ∈ c ↔ (0 ≤ j ∧ j < (l.length : Int)) ∧ clR u v l j = r := by
 obtain ⟨r, h0, h1, h2, rfl⟩ := cls_form h
 have key : ∀ j, j ∈ (upto (l.length : Int)).filter (fun j => decide (clR u v l j = r)) ↔ (0 ≤ j ∧ j < (l.length : Int)) ∧ clR u v l j = r := fun j => by rw [List.mem_filter, mem_upto, decide_eq_true_eq]
 exact ⟨r, h2, (key r).2 ⟨⟨h0, h1⟩, h2⟩, key⟩
theorem cls_asc (h : c ∈ classesL l u v) : risesP c (l.length : Int) := by
 obtain ⟨r, h0, h1, h2, rfl⟩ := cls_form h
 exact rises_iff.2 ⟨(upto_asc _).sublist List.filter_sublist, fun x hx => mem_upto.1 (List.mem_filter.1 hx).1⟩
theorem cls_cl (hc : c ∈ classesL l u v) {i j : Int} (hi : i ∈ c) (h0 : 0 ≤ j) (h1 : j < (l.length : Int)) (h : Cn l u v i j) : j ∈ c := by
 obtain ⟨r, _, _, hm⟩ := cls_mem hc
 exact (hm j).2 ⟨⟨h0, h1⟩, (cn_clR h).symm.trans ((hm i).1 hi).2⟩
end
theorem right_pos {l : List Lk} (h : rightK l = true) : 0 < l.length := by
 cases l with
 | nil =>
   obtain ⟨h1, h2⟩ := rk_wh h
   rw [rk_ok h1 h2] at h
   exact absurd h (by unfold solidB blocksE blocksL; simp; intros; split <;> simp_all [upto])
 | cons a t => simp
section
variable {l : List Lk} {x y id : Int} {sd : List Int}
end
end Go.Proofs.Ytahonnlgkmimlaa
namespace Go.Proofs.Ytahonnlgkmimlaa
open Go.RowKit
open Go.Proofs.Ytahonnlgkmimlaa.Deep
abbrev grK (l : List Lk) : Gr := ⟨upto (l.length : Int), lkA l, lkB l⟩
theorem eA_K (l : List Lk) : eA (eK l) = lkA l := by
 funext f; unfold eA lkA eK
 rw [List.getD_eq_getElem?_getD, List.getElem?_map, List.getD_eq_getElem?_getD]
 cases l[f.toNat]? <;> rfl
theorem eB_K (l : List Lk) : eB (eK l) = lkB l := by
 funext f; unfold eB lkB eK
 rw [List.getD_eq_getElem?_getD, List.getElem?_map, List.getD_eq_getElem?_getD]
 cases l[f.toNat]? <;> rfl
theorem grK_eq (l : List Lk) : grE (eK l) (upto (l.length : Int)) = grK l := by unfold grK grE; rw [eA_K, eB_K]
theorem noLp {l : List Lk} (h : okWh l) {e : Int} (he : e ∈ upto (l.length : Int)) : ¬ (grK l).lp e := by
 have he := mem_upto.1 he
 have := (h e.toNat (by omega)).2.2.2.1
 exact this
theorem right_tog {l : List Lk} (h : rightK l = true) {e f : Int} (he : e ∈ upto (l.length : Int)) (hf : f ∈ upto (l.length : Int)) (z : Int) : Tog (grK l) z e f := by
 obtain ⟨hw, hre⟩ := rk_wh h
 have hp := part_K hre
 rw [rk_ok hw hre, ← solid_ref hp] at h
 simp only [Bool.and_eq_true, decide_eq_true_eq] at h
 obtain ⟨h1, h2, h3⟩ := h
 have hb : (blocksL (nK l) (eK l) (vertsL l) (upto (l.length : Int))).getD (0 : Int).toNat ([], []) ∈ blocksL (nK l) (eK l) (vertsL l) (upto (l.length : Int)) := getD_mem (by show 0 < _; omega)
 obtain ⟨e0, he0, _, hb2⟩ := block_at hp hb
 rw [hb2] at h3
 have h3 : classL (eK l) (vertsL l) (upto (l.length : Int)) e0 = upto (l.length : Int) := h3
 obtain ⟨_, hc⟩ := class_all hp he0
 rw [h3, grK_eq] at hc
 rcases hc with ⟨_, hl⟩ | ⟨_, hc⟩
 · exact (noLp hw he0 hl).elim
 exact hc e he f hf z
theorem inc_verts {l : List Lk} {e x : Int} (he : e ∈ upto (l.length : Int)) (h : (grK l).inc e x) : x ∈ vertsL l := by
 have he := mem_upto.1 he
 refine mem_verts.2 ?_
 rw [← ends_eK]
 refine mem_endsL.2 ⟨e, mem_upto.2 he, ?_⟩
 rcases h with h | h
 · left; have := congrFun (eA_K l) e; exact this.trans h
 right; have := congrFun (eB_K l) e; exact this.trans h
theorem verts_inc {l : List Lk} {x : Int} (h : x ∈ vertsL l) : ∃ e ∈ upto (l.length : Int), (grK l).inc e x := by
 have h := mem_verts.1 h
 rw [← ends_eK] at h
 obtain ⟨e, he, ht⟩ := mem_endsL.1 h
 refine ⟨e, he, ?_⟩
 rcases ht with ht | ht
 · left; exact (congrFun (eA_K l) e).symm.trans ht
 right; exact (congrFun (eB_K l) e).symm.trans ht
theorem conn {l : List Lk} (h : rightK l = true) {z p q : Int} (hp : p ∈ vertsL l) (hq : q ∈ vertsL l) (hpz : p ≠ z) (hqz : q ≠ z) : (grK l).Rch (· ≠ z) p q := by
 obtain ⟨e, he, hep⟩ := verts_inc hp
 obtain ⟨f, hf, hfq⟩ := verts_inc hq
 obtain ⟨a, b, h1, h2, h3, h4, h5⟩ := right_tog h he hf z
 exact ((ends_rch he hep h1 hpz h2).trans h5).trans (ends_rch hf h3 hfq h4 hqz)
end Go.Proofs.Ytahonnlgkmimlaa
namespace Go.Proofs.Ytahonnlgkmimlaa
open Go.RowKit
open Go.Proofs.Ytahonnlgkmimlaa.Deep
theorem mem_endsK {l : List Lk} {x : Int} : x ∈ endsK l ↔ ∃ y ∈ l, y.1 = x ∨ y.2.1 = x := by
 unfold endsK
 rw [List.mem_flatMap]
 constructor
 · rintro ⟨y, hy, h⟩
   simp only [List.mem_cons, List.not_mem_nil, or_false] at h
   exact ⟨y, hy, h.imp Eq.symm Eq.symm⟩
 rintro ⟨y, hy, h⟩
 refine ⟨y, hy, ?_⟩
 simp only [List.mem_cons, List.not_mem_nil, or_false]
 exact h.imp Eq.symm Eq.symm
theorem mem_takeD {l : List Lk} {i k : Nat} (hi : i < k) (hl : i < l.length) : l.getD i (0, (0, 0)) ∈ l.take k := by
 rw [List.getD_eq_getElem?_getD, List.getElem?_eq_getElem hl]
 exact List.mem_iff_getElem.2 ⟨i, by rw [List.length_take]; omega, by rw [List.getElem_take]; rfl⟩
theorem mem_dropD {l : List Lk} {i k : Nat} (hi : k ≤ i) (hl : i < l.length) : l.getD i (0, (0, 0)) ∈ l.drop k := by
 rw [List.getD_eq_getElem?_getD, List.getElem?_eq_getElem hl]
 refine List.mem_iff_getElem.2 ⟨i - k, by rw [List.length_drop]; omega, ?_⟩
 rw [List.getElem_drop]
 simp only [show k + (i - k) = i by omega]
 rfl
theorem count_two {l : List Lk} {e g v : Int} (he : e ∈ upto (l.length : Int)) (hg : g ∈ upto (l.length : Int)) (hlt : e < g) (h1 : (grK l).inc e v) (h2 : (grK l).inc g v) : 2 ≤ (endsK l).count v := by
 have he := mem_upto.1 he
 have hg := mem_upto.1 hg
 have e1 : endsK l = endsK (l.take (e.toNat + 1)) ++ endsK (l.drop (e.toNat + 1)) := by
   unfold endsK; rw [← List.flatMap_append, List.take_append_drop]
 rw [e1, List.count_append]
 have c1 : 0 < (endsK (l.take (e.toNat + 1))).count v := List.count_pos_iff.2 (mem_endsK.2 ⟨_, mem_takeD (i := e.toNat) (by omega) (by omega), h1⟩)
 have c2 : 0 < (endsK (l.drop (e.toNat + 1))).count v := List.count_pos_iff.2 (mem_endsK.2 ⟨_, mem_dropD (i := g.toNat) (by omega) (by omega), h2⟩)
 omega
theorem first_step {G : Gr} {P : Int → Prop} {v b : Int} (h : G.Rch P v b) (hne : v ≠ b) : ∃ y g, g ∈ G.L ∧ G.joins g v y ∧ P y := by
 induction h with
 | refl _ => exact (hne rfl).elim
 | @step y z h1 ha hz ih =>
   by_cases q : v = y
   · subst q; obtain ⟨g, hg, hj⟩ := ha; exact ⟨z, g, hg, hj, hz⟩
   exact ih q
theorem other_end {l : List Lk} (hw : okWh l) {e v : Int} (he : e ∈ upto (l.length : Int)) (h : (grK l).inc e v) : ∃ w, w ≠ v ∧ (grK l).joins e v w := by
 have hl := noLp hw he
 rcases h with h | h
 · exact ⟨lkB l e, fun q => hl (h.trans q.symm), .inl ⟨h, rfl⟩⟩
 exact ⟨lkA l e, fun q => hl (q.trans h.symm), .inr ⟨rfl, h⟩⟩
theorem two_at {l : List Lk} (h : rightK l = true) (hl : 2 ≤ l.length) {v : Int} {e : Int} (he : e ∈ upto (l.length : Int)) (hv : (grK l).inc e v) : ∃ g ∈ upto (l.length : Int), e ≠ g ∧ (grK l).inc g v := by
 have hw := (rk_wh h).1
 obtain ⟨w, hwv, hj⟩ := other_end hw he hv
 obtain ⟨f, hf, hfe⟩ : ∃ f ∈ upto (l.length : Int), e ≠ f := by
   have := mem_upto.1 he
   by_cases q : e = 0
   · exact ⟨1, mem_upto.2 (by omega), by omega⟩
   exact ⟨0, mem_upto.2 (by omega), q⟩
 obtain ⟨a, b, h1, h2, h3, h4, h5⟩ := right_tog h he hf w
 have ha : a = v := (hj.of h1).resolve_right h2
 subst ha
 by_cases q : a = b
 · subst q; exact ⟨f, hf, hfe, h3⟩
 obtain ⟨y, g, hg, hgj, hy⟩ := first_step h5 q
 refine ⟨g, hg, fun e1 => ?_, hgj.left⟩
 subst e1
 have hy2 : y = a := (hj.of hgj.right).resolve_right hy
 subst hy2
 rcases hgj with ⟨k1, k2⟩ | ⟨k1, k2⟩
 · exact noLp hw he (k1.trans k2.symm)
 exact noLp hw he (k1.trans k2.symm)
theorem deg_two {l : List Lk} (h : rightK l = true) (hl : 2 ≤ l.length) {v : Int} (hv : v ∈ vertsL l) : 2 ≤ (endsK l).count v := by
 obtain ⟨e, he, hi⟩ := verts_inc hv
 obtain ⟨g, hg, hne, hgi⟩ := two_at h hl he hi
 rcases Int.lt_or_gt_of_ne hne with q | q
 · exact count_two he hg q hi hgi
 exact count_two hg he q hgi hi
theorem len_count (v : Int) : ∀ L : List Int, L.length = L.count v + (L.filter fun x => !(x == v)).length
 | [] => rfl
 | x :: L => by
   have ih := len_count v L
   rw [List.length_cons, List.count_cons, List.filter_cons]
   by_cases q : x == v
   · rw [if_pos q, q]; simp; omega
   rw [if_neg q]; simp only [Bool.not_eq_true] at q; rw [q]; simp; omega
theorem sum_count : ∀ (V : List Int), V.Nodup → ∀ L : List Int, (∀ x ∈ L, x ∈ V) → (V.map fun v => L.count v).sum = L.length
 | [], _, L, h => by
   cases L with
   | nil => rfl
   | cons x L => exact absurd (h x (by simp)) (by simp)
 | v :: V, hn, L, h => by
   rw [List.nodup_cons] at hn
   have ih := sum_count V hn.2 (L.filter fun x => !(x == v)) (fun x hx => by
     obtain ⟨h1, h2⟩ := List.mem_filter.1 hx
     rcases List.mem_cons.1 (h x h1) with e | e
     · subst e; simp at h2
     exact e)
   rw [List.map_cons, List.sum_cons, len_count v L, ← ih]
   congr 2
   refine List.map_congr_left fun u hu => (List.count_filter ?_).symm
   have : u ≠ v := fun e => hn.1 (e ▸ hu)
   simpa using this
theorem sum_ge {c : Int → Nat} : ∀ V : List Int, (∀ v ∈ V, 2 ≤ c v) → 2 * V.length ≤ (V.map c).sum
 | [], _ => by simp
 | v :: V, h => by
   rw [List.map_cons, List.sum_cons, List.length_cons]
   have := h v (by simp)
   have := sum_ge V fun u hu => h u (List.mem_cons_of_mem _ hu)
   omega
theorem sum_all {c : Int → Nat} : ∀ V : List Int, (∀ v ∈ V, 2 ≤ c v) → (V.map c).sum = 2 * V.length → ∀ v ∈ V, c v = 2
 | [], _, _ => by simp
 | v :: V, h, hs => by
   rw [List.map_cons, List.sum_cons, List.length_cons] at hs
   have h1 := h v (by simp)
   have h2 := sum_ge V fun u hu => h u (List.mem_cons_of_mem _ hu)
   intro u hu
   rcases List.mem_cons.1 hu with e | e
   · subst e; omega
   exact sum_all V (fun u hu => h u (List.mem_cons_of_mem _ hu)) (by omega) u e
theorem sum_const {c : Int → Nat} : ∀ V : List Int, (∀ v ∈ V, c v = 2) → (V.map c).sum = 2 * V.length
 | [], _ => by simp
 | v :: V, h => by
   rw [List.map_cons, List.sum_cons, List.length_cons, h v (by simp), sum_const V fun u hu => h u (List.mem_cons_of_mem _ hu)]
   omega
theorem sum_verts (l : List Lk) : ((vertsL l).map fun v => (endsK l).count v).sum = 2 * l.length := by
 rw [sum_count _ (asc_nodup (verts_asc l)) _ fun x hx => mem_verts.2 hx, endsK_len]
theorem ring_eq {l : List Lk} (h : rightK l = true) : ringsB l = ringR l := by
 have hw := (rk_wh h).1
 have hpos := right_pos h
 have hs := sum_verts l
 rw [Bool.eq_iff_iff]
 unfold ringsB ringR
 rw [decide_eq_true_eq, Bool.and_eq_true, decide_eq_true_eq, decide_eq_true_eq]
 constructor
 · intro hr
   have h1 := sum_const (c := fun v => (endsK l).count v) (vertsL l) fun v hv => hr v (mem_verts.1 hv)
   have h2 : (vertsL l).length = l.length := by omega
   refine ⟨?_, by omega⟩
   refine Classical.byContradiction fun q => ?_
   -- one link: its ends are two
   have hA : lkA l 0 ∈ vertsL l := inc_verts (e := 0) (mem_upto.2 (by omega)) (.inl rfl)
   have hB : lkB l 0 ∈ vertsL l := inc_verts (e := 0) (mem_upto.2 (by omega)) (.inr rfl)
   have hne : lkA l 0 ≠ lkB l 0 := noLp hw (e := 0) (mem_upto.2 (by omega))
   have := nodup_le (l := [lkA l 0, lkB l 0]) (m := vertsL l) (by simp [hne]) (fun x hx => by
     simp only [List.mem_cons, List.not_mem_nil, or_false] at hx
     rcases hx with e | e <;> subst e <;> assumption)
   simp only [List.length_cons, List.length_nil] at this
   omega
 rintro ⟨h1, h2⟩
 have hd : ∀ v ∈ vertsL l, 2 ≤ (endsK l).count v := fun v hv => deg_two h (by omega) hv
 have := sum_all (c := fun v => (endsK l).count v) (vertsL l) hd (by omega)
 exact fun v hv => this v (mem_verts.2 hv)
end Go.Proofs.Ytahonnlgkmimlaa
namespace Go.Proofs.Ytahonnlgkmimlaa
open Go.RowKit
open Go.Proofs.Ytahonnlgkmimlaa.Deep
theorem len_filter {α : Type} (p : α → Bool) : ∀ L : List α, L.length = (L.filter p).length + (L.filter fun x => !p x).length
 | [] => rfl
 | x :: L => by
   have ih := len_filter p L
   rw [List.filter_cons, List.filter_cons, List.length_cons]
   by_cases q : p x = true
   · rw [if_pos q, if_neg (by rw [q]; decide), List.length_cons]; omega
   rw [if_neg q, if_pos (by simpa using q), List.length_cons]; omega
theorem two_of {L : List Int} (hn : L.Nodup) (h : 2 ≤ L.length) : ∃ x ∈ L, ∃ y ∈ L, x ≠ y := by
 match L, hn, h with
 | x :: y :: t, hn, _ =>
   refine ⟨x, by simp, y, by simp, fun e => ?_⟩
   subst e
   simp at hn
theorem two_len {α : Type} {L : List α} {x y : α} (hx : x ∈ L) (hy : y ∈ L) (h : x ≠ y) : 1 < L.length := by
 match L with
 | [] => cases hx
 | [a] => rw [List.mem_singleton] at hx hy; exact (h (hx.trans hy.symm)).elim
 | a :: b :: t => simp
theorem flat_two {L : List Int} {f : Int → List Int} {e g v : Int} (he : e ∈ L) (hg : g ∈ L) (hne : e ≠ g) (h1 : v ∈ f e) (h2 : v ∈ f g) : 2 ≤ (L.flatMap f).count v := by
 have p1 := List.perm_cons_erase he
 have p2 := List.perm_cons_erase ((List.mem_erase_of_ne (Ne.symm hne)).2 hg)
 have p := (p1.trans (p2.cons e)).flatMap_right f
 rw [p.count_eq, List.flatMap_cons, List.flatMap_cons, List.count_append, List.count_append]
 have := List.count_pos_iff.2 h1
 have := List.count_pos_iff.2 h2
 omega
theorem rch_hit {G : Gr} {P : Int → Prop} {w v : Int} (h : G.Rch P w v) (hne : w ≠ v) : ∃ z e, e ∈ G.L ∧ G.joins e z v ∧ G.Rch (fun x => P x ∧ x ≠ v) w z := by
 have key : ∀ y, G.Rch P w y → (∃ z e, e ∈ G.L ∧ G.joins e z v ∧ G.Rch (fun x => P x ∧ x ≠ v) w z) ∨ G.Rch (fun x => P x ∧ x ≠ v) w y := by
   intro y hy
   induction hy with
   | refl hp => exact .inr (.refl ⟨hp, hne⟩)
   | @step y z h1 ha hz ih =>
     rcases ih with ih | ih
     · exact .inl ih
     by_cases q : z = v
     · subst q; obtain ⟨e, he, hj⟩ := ha; exact .inl ⟨y, e, he, hj, ih⟩
     exact .inr (.step ih ha ⟨hz, q⟩)
 rcases key v h with h9 | h9
 · exact h9
 exact (h9.last.2 rfl).elim
theorem rch_cn {l : List Lk} {u v a b : Int} (h : (grK l).Rch (fun x => x ≠ u ∧ x ≠ v) a b) : ∀ {g g' : Int}, g ∈ upto (l.length : Int) → g' ∈ upto (l.length : Int) → (grK l).inc g a → (grK l).inc g' b → Cn l u v g g' := by
 induction h with
 | refl hp =>
   intro g g' hg hg' h1 h2
   have hg := mem_upto.1 hg; have hg' := mem_upto.1 hg'
   exact .link hg.1 hg.2 hg'.1 hg'.2 (touch_iff.2 ⟨_, hp.1, hp.2, h1, h2⟩)
 | @step y z hr ha hz ih =>
   intro g g' hg hg' h1 h2
   obtain ⟨f, hf, hj⟩ := ha
   have h9 := ih hg hf h1 hj.left
   have hg' := mem_upto.1 hg'; have hf := mem_upto.1 hf
   exact h9.trans (.link hf.1 hf.2 hg'.1 hg'.2 (touch_iff.2 ⟨z, hz.1, hz.2, hj.right, h2⟩))
section
variable {l : List Lk} {u v : Int} {c : List Int}
theorem mem_leftE {e : Int} : e ∈ leftE (eK l) u (upto (l.length : Int)) ↔ e ∈ upto (l.length : Int) ∧ ¬ (grK l).inc e u := by
 unfold leftE
 rw [List.mem_filter]
 refine and_congr_right fun _ => ?_
 have h1 : ((eK l).getD e.toNat (0, 0)).1 = lkA l e := congrFun (eA_K l) e
 have h2 : ((eK l).getD e.toNat (0, 0)).2 = lkB l e := congrFun (eB_K l) e
 rw [h1, h2, Bool.and_eq_true, Bool.not_eq_true', Bool.not_eq_true', decide_eq_false_iff_not, decide_eq_false_iff_not]
 constructor
 · rintro ⟨a, b⟩ (q | q)
   · exact a q.symm
   exact b q.symm
 intro q; exact ⟨fun e => q (.inl e.symm), fun e => q (.inr e.symm)⟩
theorem mem_butV {V : List Int} {x : Int} : x ∈ butV u V ↔ x ∈ V ∧ x ≠ u := by unfold butV; rw [List.mem_filter]; simp
theorem left_part (h : rightK l = true) : partE (nK l) (eK l) (butV u (vertsL l)) (leftE (eK l) u (upto (l.length : Int))) = 0 := by
 obtain ⟨hw, hre⟩ := rk_wh h
 obtain ⟨p1, p2, p3, p4⟩ := part_iff.1 (part_K hre)
 refine part_iff.2 ⟨p1, rises_sub ((rises_iff.1 p2).1.sublist List.filter_sublist) p2 fun x hx => (mem_butV.1 hx).1, rises_sub ((rises_iff.1 p3).1.sublist List.filter_sublist) p3 fun x hx => (mem_leftE.1 hx).1, fun e he x hx => ?_⟩
 obtain ⟨h1, h2⟩ := mem_leftE.1 he
 refine mem_butV.2 ⟨p4 e h1 x hx, fun q => h2 ?_⟩
 subst q
 rcases hx with hx | hx
 · left; exact (congrFun (eA_K l) e).symm.trans hx
 right; exact (congrFun (eB_K l) e).symm.trans hx
theorem block_of {n : Int} {E : List (Int × Int)} {V L : List Int} (hp : partE n E V L = 0) {e : Int} (he : e ∈ L) : (touchL E (classL E V L e) n, classL E V L e) ∈ blocksL n E V L := by
 have hs := class_self (E := E) (V := V) he
 have hr : (classL E V L e).getD 0 0 ∈ classL E V L e := getD_mem (List.length_pos_of_mem hs)
 have hc := (class_all hp he).1 _ hr
 refine List.mem_map.2 ⟨(classL E V L e).getD 0 0, List.mem_filter.2 ⟨(class_mem.1 hr).1, decide_eq_true (by rw [hc])⟩, by rw [hc]⟩
theorem oth_uniq (hne : u ≠ v) (h : ((othE (eK l) u (upto (l.length : Int))).count v : Int) < 2) {e g : Int} (he : e ∈ upto (l.length : Int)) (hg : g ∈ upto (l.length : Int)) (h1 : (grK l).joins e u v) (h2 : (grK l).joins g u v) : e = g := by
 refine Classical.byContradiction fun q => ?_
 have key : ∀ {e : Int}, (grK l).joins e u v → v ∈ (if u = ((eK l).getD e.toNat (0, 0)).1 then [((eK l).getD e.toNat (0, 0)).2] else if u = ((eK l).getD e.toNat (0, 0)).2 then [((eK l).getD e.toNat (0, 0)).1] else []) := by
   intro e hj
   have k1 : ((eK l).getD e.toNat (0, 0)).1 = lkA l e := congrFun (eA_K l) e
   have k2 : ((eK l).getD e.toNat (0, 0)).2 = lkB l e := congrFun (eB_K l) e
   rw [k1, k2]
   rcases hj with ⟨a, b⟩ | ⟨a, b⟩
   · have a : lkA l e = u := a
     have b : lkB l e = v := b
     rw [if_pos a.symm, b]; simp
   have a : lkA l e = v := a
   have b : lkB l e = u := b
   rw [if_neg (by rw [a]; exact hne), if_pos b.symm, a]; simp
 have := flat_two (f := fun e => if u = ((eK l).getD e.toNat (0, 0)).1 then [((eK l).getD e.toNat (0, 0)).2] else if u = ((eK l).getD e.toNat (0, 0)).2 then [((eK l).getD e.toNat (0, 0)).1] else []) he hg q (key h1) (key h2)
 unfold othE at h
 omega
theorem out_end (hw : okWh l) {g : Int} (hg : g ∈ upto (l.length : Int)) (h : ¬ (grK l).joins g u v) : ∃ w, (grK l).inc g w ∧ w ≠ u ∧ w ≠ v := by
 have hl := noLp hw hg
 by_cases a1 : lkA l g = u
 · refine ⟨lkB l g, .inr rfl, fun q => hl (a1.trans q.symm), fun q => h (.inl ⟨a1, q⟩)⟩
 by_cases a2 : lkA l g = v
 · exact ⟨lkB l g, .inr rfl, fun q => h (.inr ⟨a2, q⟩), fun q => hl (a2.trans q.symm)⟩
 exact ⟨lkA l g, .inl rfl, a1, a2⟩
theorem two_sides (h : rightK l = true) (hc : c ∈ classesL l u v) (h1 : 2 ≤ c.length) (h2 : 2 ≤ (l.length : Int) - (c.length : Int)) (hu : ∀ e ∈ upto (l.length : Int), ∀ g ∈ upto (l.length : Int), (grK l).joins e u v → (grK l).joins g u v → e = g) :
   (∃ g ∈ c, ∃ w, (grK l).inc g w ∧ w ≠ u ∧ w ≠ v) ∧ ∃ g ∈ upto (l.length : Int), g ∉ c ∧ ∃ w, (grK l).inc g w ∧ w ≠ u ∧ w ≠ v := by
 have hw := (rk_wh h).1
 have hca := (rises_iff.1 (cls_asc hc))
 have hcu : ∀ x ∈ c, x ∈ upto (l.length : Int) := fun x hx => mem_upto.2 (hca.2 x hx)
 have pick : ∀ L : List Int, (∀ x ∈ L, x ∈ upto (l.length : Int)) → L.Nodup → 2 ≤ L.length → ∃ g ∈ L, ¬ (grK l).joins g u v := by
   intro L hL hn hl
   obtain ⟨x, hx, y, hy, hxy⟩ := two_of hn hl
   by_cases q : (grK l).joins x u v
   · exact ⟨y, hy, fun q2 => hxy (hu x (hL x hx) y (hL y hy) q q2)⟩
   exact ⟨x, hx, q⟩
 constructor
 · obtain ⟨g, hg, hj⟩ := pick c hcu (asc_nodup hca.1) h1
   exact ⟨g, hg, out_end hw (hcu g hg) hj⟩
 have hlen := len_filter (fun x => decide (x ∈ c)) (upto (l.length : Int))
 have e1 : (upto (l.length : Int)).filter (fun x => decide (x ∈ c)) = c := asc_ext ((upto_asc _).sublist List.filter_sublist) hca.1 fun x => by
   rw [List.mem_filter, decide_eq_true_eq]; exact ⟨fun q => q.2, fun q => ⟨hcu x q, q⟩⟩
 rw [e1, upto_len] at hlen
 obtain ⟨g, hg, hj⟩ := pick ((upto (l.length : Int)).filter fun x => !decide (x ∈ c)) (fun x hx => (List.mem_filter.1 hx).1) ((asc_nodup (upto_asc _)).sublist List.filter_sublist) (by omega)
 obtain ⟨g1, g2⟩ := List.mem_filter.1 hg
 exact ⟨g, g1, by simpa using g2, out_end hw g1 hj⟩
theorem split_beside (h : rightK l = true) (hv : v ∈ vertsL l) (hne : u ≠ v) (hc : c ∈ classesL l u v) (h1 : 2 ≤ c.length) (h2 : 2 ≤ (l.length : Int) - (c.length : Int))
   (hcnt : ((othE (eK l) u (upto (l.length : Int))).count v : Int) < 2) : v ∈ cutsE (nK l) (eK l) (butV u (vertsL l)) (leftE (eK l) u (upto (l.length : Int))) := by
 obtain ⟨hw, hre⟩ := rk_wh h
 have hu : ∀ e ∈ upto (l.length : Int), ∀ g ∈ upto (l.length : Int), (grK l).joins e u v → (grK l).joins g u v → e = g := fun e he g hg a b => oth_uniq hne hcnt he hg a b
 obtain ⟨⟨g, hgc, w, gw, wu, wv⟩, g', hg', hgc', w', gw', wu', wv'⟩ := two_sides h hc h1 h2 hu
 have hg : g ∈ upto (l.length : Int) := mem_upto.2 ((rises_iff.1 (cls_asc hc)).2 g hgc)
 have hl2 : 2 ≤ l.length := by omega
 -- a link at v that isn't at u
 obtain ⟨f, hf, hfv, hfu⟩ : ∃ f ∈ upto (l.length : Int), (grK l).inc f v ∧ ¬ (grK l).inc f u := by
   obtain ⟨e, he, hev⟩ := verts_inc hv
   obtain ⟨e2, he2, hee, hev2⟩ := two_at h hl2 he hev
   have hj : ∀ {e : Int}, (grK l).inc e v → (grK l).inc e u → (grK l).joins e u v := by
     rintro e (a | a) (b | b)
     · exact (hne (b.symm.trans a)).elim
     · exact .inr ⟨a, b⟩
     · exact .inl ⟨b, a⟩
     exact (hne (b.symm.trans a)).elim
   by_cases q : (grK l).inc e u
   · exact ⟨e2, he2, hev2, fun q2 => hee (hu e he e2 he2 (hj hev q) (hj hev2 q2))⟩
   exact ⟨e, he, hev, q⟩
 have reach : ∀ {g w : Int}, g ∈ upto (l.length : Int) → (grK l).inc g w → w ≠ u → w ≠ v → ∃ z e, e ∈ upto (l.length : Int) ∧ (grK l).joins e z v ∧ (grK l).Rch (fun x => x ≠ u ∧ x ≠ v) w z := by
   intro g w hg gw wu wv
   obtain ⟨a, b, k1, k2, k3, k4, k5⟩ := right_tog h hg hf u
   have hr : (grK l).Rch (· ≠ u) w v := ((ends_rch hg gw k1 wu k2).trans k5).trans (ends_rch hf k3 hfv k4 (fun q => hne q.symm))
   exact rch_hit hr wv
 obtain ⟨z, e, he, hej, hr⟩ := reach hg gw wu wv
 obtain ⟨z', e', he', hej', hr'⟩ := reach hg' gw' wu' wv'
 have far : ¬ (grK l).Rch (fun x => x ≠ u ∧ x ≠ v) z z' := fun q => hgc' (cls_cl hc hgc (mem_upto.1 hg').1 (mem_upto.1 hg').2 (rch_cn ((hr.trans q).trans hr'.symm) hg hg' gw gw'))
 have hzu := hr.last
 have hzu' := hr'.last
 have hnu : ∀ {e z : Int}, (grK l).joins e z v → z ≠ u → ¬ (grK l).inc e u := fun hj hz q => by
   rcases hj.of q with q | q
   · exact hz q.symm
   exact hne q
 have heL : e ∈ leftE (eK l) u (upto (l.length : Int)) := mem_leftE.2 ⟨he, hnu hej hzu.1⟩
 have heL' : e' ∈ leftE (eK l) u (upto (l.length : Int)) := mem_leftE.2 ⟨he', hnu hej' hzu'.1⟩
 have hp := left_part (u := u) h
 have hee : e ≠ e' := fun q => by
   subst q
   have : z = z' := (hej'.of hej.left).resolve_right hzu.2
   subst this
   exact far (.refl hzu)
 have hlow : ∀ {e : Int}, e ∈ upto (l.length : Int) → ¬ (grE (eK l) (leftE (eK l) u (upto (l.length : Int)))).lp e := fun he q => noLp hw he (((congrFun (eA_K l) _).symm.trans q).trans (congrFun (eB_K l) _))
 have hinc : ∀ {e x : Int}, (grE (eK l) (leftE (eK l) u (upto (l.length : Int)))).inc e x → (grK l).inc e x := fun q => q.imp (fun q => (congrFun (eA_K l) _).symm.trans q) (fun q => (congrFun (eB_K l) _).symm.trans q)
 have lift : ∀ {a b : Int}, a ≠ u → (grE (eK l) (leftE (eK l) u (upto (l.length : Int)))).Rch (· ≠ v) a b → (grK l).Rch (fun x => x ≠ u ∧ x ≠ v) a b := by
   intro a b ha hab
   induction hab with
   | refl q => exact .refl ⟨ha, q⟩
   | @step y z _ hadj hz ih =>
     obtain ⟨k, hk, hkj⟩ := hadj
     obtain ⟨k1, k2⟩ := mem_leftE.1 hk
     refine .step ih ⟨k, k1, ?_⟩ ⟨fun q => k2 (q ▸ hinc hkj.right), hz⟩
     rcases hkj with ⟨q1, q2⟩ | ⟨q1, q2⟩
     · exact .inl ⟨(congrFun (eA_K l) _).symm.trans q1, (congrFun (eB_K l) _).symm.trans q2⟩
     exact .inr ⟨(congrFun (eA_K l) _).symm.trans q1, (congrFun (eB_K l) _).symm.trans q2⟩
 have hap : apartB (eK l) (leftE (eK l) u (upto (l.length : Int))) v e e' ≠ false := fun q => by
   obtain ⟨a, b, a1, a2, b1, b2, hab⟩ := (apart_iff heL heL' hee (hlow he) (hlow he')).1 q
   have ea : a = z := (hej.of (hinc a1)).resolve_right a2
   have eb : b = z' := (hej'.of (hinc b1)).resolve_right b2
   subst ea; subst eb
   exact far (lift hzu.1 hab)
 have hvV : v ∈ butV u (vertsL l) := mem_butV.2 ⟨hv, fun q => hne q.symm⟩
 have hcl : classL (eK l) (butV u (vertsL l)) (leftE (eK l) u (upto (l.length : Int))) e ≠ classL (eK l) (butV u (vertsL l)) (leftE (eK l) u (upto (l.length : Int))) e' := fun q => by
   have hs := class_self (E := eK l) (V := butV u (vertsL l)) heL'
   rw [← q] at hs
   exact hap (togB_iff.1 (class_mem.1 hs).2 v hvV)
 have htv : ∀ {e : Int}, e ∈ leftE (eK l) u (upto (l.length : Int)) → (grK l).inc e v → v ∈ touchL (eK l) (classL (eK l) (butV u (vertsL l)) (leftE (eK l) u (upto (l.length : Int))) e) (nK l) := fun he hi => by
   obtain ⟨_, p2, _, _⟩ := part_iff.1 hp
   refine mem_touchL.2 ⟨(rises_iff.1 p2).2 v hvV, _, class_self he, ?_⟩
   rcases hi with hi | hi
   · left; exact (congrFun (eA_K l) _).trans hi
   right; exact (congrFun (eB_K l) _).trans hi
 unfold cutsE
 rw [if_neg (by omega)]
 refine List.mem_filter.2 ⟨hvV, decide_eq_true ?_⟩
 unfold hasIn
 exact two_len (List.mem_filter.2 ⟨block_of hp heL, decide_eq_true (htv heL hej.right)⟩) (List.mem_filter.2 ⟨block_of hp heL', decide_eq_true (htv heL' hej'.right)⟩) (fun q => hcl (congrArg Prod.snd q))
end
end Go.Proofs.Ytahonnlgkmimlaa
namespace Go.Proofs.Ytahonnlgkmimlaa
open Go.RowKit
open Go.Proofs.Ytahonnlgkmimlaa.Deep
theorem whole_right {l : List Lk} (h : rightK l = true) : wholeR l = (((nK l, eK l), (vertsL l, upto (l.length : Int))), true) := wholeR_K (rk_wh h).1 (rk_wh h).2
theorem besK_right {l : List Lk} (h : rightK l = true) (u : Int) : besK l u = besideE (nK l) (eK l) (vertsL l) (upto (l.length : Int)) u := by unfold besK; rw [whole_right h]
theorem cuts_rises {l : List Lk} (h : rightK l = true) (u : Int) : risesP (cutsE (nK l) (eK l) (butV u (vertsL l)) (leftE (eK l) u (upto (l.length : Int)))) (nK l) := by
 have hp := left_part (u := u) h
 obtain ⟨_, p2, _, _⟩ := part_iff.1 hp
 unfold cutsE
 rw [if_neg (by omega)]
 exact rises_sub ((rises_iff.1 p2).1.sublist List.filter_sublist) p2 fun x hx => (List.mem_filter.1 hx).1
theorem cand_none {l : List Lk} (h : rightK l = true) {u v : Int} (hv : v ∈ vertsL l) (hne : u ≠ v) (hb : besideB (nK l) (eK l) (vertsL l) (upto (l.length : Int)) u v = true) (hlt : ¬ v < u) : candC l u v (classesL l u v) = [] := by
 unfold besideB at hb
 rw [decide_eq_false hlt, Bool.false_or, Bool.and_eq_true, decide_eq_true_eq, Bool.not_eq_true'] at hb
 unfold candC
 rw [List.map_eq_nil_iff, List.filter_eq_nil_iff]
 intro c hc hw
 unfold willB at hw
 rw [Bool.and_eq_true, decide_eq_true_eq, decide_eq_true_eq] at hw
 have := split_beside h hv hne hc (by omega) hw.2 hb.1
 rw [hasB_mem (cuts_rises h u), decide_eq_false_iff_not] at hb
 exact hb.2 this
theorem candV_bes {l : List Lk} (h : rightK l = true) {pre us : List Int} {u : Int} (hV : vertsL l = pre ++ u :: us) : candV l u (besK l u) = candV l u us := by
 have ha := verts_asc l
 rw [hV] at ha
 have ha2 : (∀ x ∈ pre, x < u) ∧ ∀ x ∈ us, u < x := by
   obtain ⟨_, h2, h3⟩ := List.pairwise_append.1 ha
   exact ⟨fun x hx => h3 x hx u (by simp), fun x hx => (List.pairwise_cons.1 h2).1 x hx⟩
 rw [besK_right h]
 unfold besideE butV
 rw [List.filter_filter]
 rw [show (List.filter (fun a => !besideB (nK l) (eK l) (vertsL l) (upto (l.length : Int)) u a && !decide (a = u)) (vertsL l)) = us.filter (fun a => !besideB (nK l) (eK l) (vertsL l) (upto (l.length : Int)) u a && !decide (a = u)) by
   conv => lhs; rw [hV]
   rw [List.filter_append, List.filter_eq_nil_iff.2 (fun x hx => ?_), List.nil_append, List.filter_cons, if_neg (by simp)]
   · rw [hV]
   have := ha2.1 x hx
   unfold besideB
   rw [decide_eq_true this]; simp]
 have key : ∀ vs : List Int, (∀ v ∈ vs, v ∈ us) → candV l u (vs.filter fun a => !besideB (nK l) (eK l) (vertsL l) (upto (l.length : Int)) u a && !decide (a = u)) = candV l u vs := by
   intro vs
   induction vs with
   | nil => intro _; rfl
   | cons v vs ih =>
     intro hs
     have ih := ih fun x hx => hs x (List.mem_cons_of_mem _ hx)
     have hvu := ha2.2 v (hs v (by simp))
     rw [List.filter_cons, candV_cons]
     by_cases q : besideB (nK l) (eK l) (vertsL l) (upto (l.length : Int)) u v = true
     · rw [if_neg (by rw [q]; simp), ih, cand_none h (by rw [hV]; exact List.mem_append_right _ (List.mem_cons_of_mem _ (hs v (by simp)))) (by omega) q (by omega)]; rfl
     rw [if_pos (by simp only [Bool.not_eq_true] at q; rw [q]; simp; omega), candV_cons, ih]
 exact key us fun _ h => h
theorem candU_sp {l : List Lk} (h : rightK l = true) : ∀ (us pre : List Int), vertsL l = pre ++ us → candU l us = spU l us
 | [], _, _ => rfl
 | u :: us, pre, hV => by
   rw [candU_cons, spU, candV_bes h hV, candU_sp h us (pre ++ [u]) (by rw [hV]; simp)]
theorem first_eq {l : List Lk} (h : rightK l = true) : firstK l = (splitsR l).head? := by
 unfold firstK splitsR
 rw [← ring_eq h, whole_right h]
 by_cases q : ringsB l = true
 · rw [if_neg (by rw [q]; simp), if_pos q]; rfl
 rw [if_pos ⟨h, by simpa using q⟩, if_neg q]
 exact congrArg _ (candU_sp h (vertsL l) [] rfl)
theorem kind_eq {l : List Lk} (h : rightK l = true) : kindK l = kindR l := by
 unfold kindK kindR
 rw [if_neg (by rw [h]; decide), ← ring_eq h, first_eq h]
 by_cases q1 : l.length = 1
 · rw [if_pos q1, if_pos (show (l.length : Int) = 1 by omega)]
 rw [if_neg q1, if_neg (show ¬ (l.length : Int) = 1 by omega)]
 by_cases q2 : ringsB l = true
 · rw [if_pos q2, if_pos q2]
 rw [if_neg q2, if_neg q2]
 by_cases q3 : (vertsL l).length = 2
 · rw [if_pos q3, if_pos (show ((vertsL l).length : Int) = 2 by omega)]
 rw [if_neg q3, if_neg (show ¬ ((vertsL l).length : Int) = 2 by omega)]
 cases e : splitsR l with
 | nil => rfl
 | cons a t => rw [if_pos (by rfl), if_neg (by simp only [List.length_cons]; omega)]
theorem kinds_no {l : List Lk} (h : rightK l = false) : kindK l = 0 ∧ firstK l = none ∧ firstD l = (0, (0, [])) := by
 have e : firstK l = none := by unfold firstK; rw [if_neg (by rw [h]; simp)]
 refine ⟨by unfold kindK; rw [if_pos h], e, ?_⟩
 unfold firstD; rw [e]; rfl
theorem cell_triC {γ : Type} [Data γ] {T : Stab} {C : World → Prop} {w : World} {v : Value} {l : List (Int × Int × List γ)} (hC : ∀ w', C w' → Keeps T w w') (h : Rd T w v l) (i : Int) (h0 : 0 ≤ i) (h1 : i < (l.length : Int)) :
   ∃ u, CellOk C (hdB v) (hdO v + i.toNat * 3 + 0) (.int .i64 (l.getD i.toNat (0, (0, []))).1) ∧ CellOk C (hdB v) (hdO v + i.toNat * 3 + 1) (.int .i64 (l.getD i.toNat (0, (0, []))).2.1) ∧ CellOk C (hdB v) (hdO v + i.toNat * 3 + 2) u ∧ Rd T w u (l.getD i.toNat (0, (0, []))).2.2 := by
 obtain ⟨cs, ⟨c1, c2, rfl, hc1, c3, c4, rfl, hc3, u, rfl, hu⟩, hc⟩ := cells_atC hC h h0 h1 (0, (0, []))
 have hc1 : c1 = [.int .i64 (l.getD i.toNat (0, (0, []))).1] := hc1
 have hc3 : c3 = [.int .i64 (l.getD i.toNat (0, (0, []))).2.1] := hc3
 subst hc1; subst hc3
 exact ⟨u, fun w' hw' => hc 0 (show 0 < 1 + (1 + 1) by omega) w' hw', fun w' hw' => hc 1 (show 1 < 1 + (1 + 1) by omega) w' hw', fun w' hw' => hc 2 (show 2 < 1 + (1 + 1) by omega) w' hw', slice_rd hu⟩
theorem kinds_dead {l : List Lk} (h : rightK l = true) (hb : (rightK l = false ∨ ¬ kindK l = kindR l) ∨ (!(((firstK l).isSome) == (decide ((0 : Int) < ((splitsR l).length : Int))))) = true) : False := by
 rcases hb with (q | q) | q
 · rw [h] at q; cases q
 · exact q (kind_eq h)
 rw [first_eq h] at q
 cases e : splitsR l with
 | nil => rw [e] at q; simp at q
 | cons a t =>
   rw [e] at q
   have : decide ((0 : Int) < ((a :: t).length : Int)) = true := decide_eq_true (by simp only [List.length_cons]; omega)
   rw [this] at q; simp at q
theorem first_some {l : List Lk} (h : rightK l = true) (hs : (firstK l).isSome = true) : (0 : Int) < ((splitsR l).length : Int) ∧ firstD l = (splitsR l).getD (0 : Int).toNat (0, (0, [])) := by
 unfold firstD
 rw [first_eq h] at hs ⊢
 cases e : splitsR l with
 | nil => rw [e] at hs; cases hs
 | cons a t => exact ⟨by simp only [List.length_cons]; omega, rfl⟩
theorem first_none {l : List Lk} (hs : (firstK l).isSome = false) : firstD l = (0, (0, [])) := by
 unfold firstD
 cases e : firstK l with
 | none => rfl
 | some a => rw [e] at hs; cases hs
theorem pairKinds_any (vl : Value) (l : List (Int × Int × Int)) (w : World) (hL : Rd (· < w.heap.size) w vl l) (hs : l.length ≤ 9223372036854775807) (hwf : WfL l) :
 Calls Try.prog 13 [vl].toArray w (Ans (.bool true) w) := by
 refine enter Try.f13 102 Try.func13 fun a hA => ?_
 replace hA := env_sub [(0, vl)] hA
 have H := Fr.start (org w)
 refine go_seq fun K1 hK1 => ?_
 refine q_reg [] [(0, vl)] (TT ∧ True) hA H ⟨tv, tv⟩ fun a w2 hA H hG => ?_
 refine hK1 _ _ ?_
 refine go_seq fun K3 hK3 => ?_
 refine go_seq fun K4 hK4 => ?_
 refine q_reg [(8, .bool true), (12, iv (l.length : Int))] [(0, vl), (14, .bool (decide ((16 : Int) < (l.length : Int))))] ((Callable Try.prog 55 ∧ CallOk Try.prog (On w2) 55 [].toArray (.bool true)) ∧ TT ∧ TT ∧ ((false) = false → True) ∧ ((false) = false → LenOk vl (l.length : Int)) ∧ ((false) = false → True) ∧ TT ∧ True) hA H ⟨⟨callable_of, callOk_of fun w hw => by exact awakeP_any w⟩, tv, tv, fun _ => tv, fun _ => by exact len_ok (H.arg hL), fun _ => tv, tv, tv⟩ fun a w5 hA H hG => ?_
 refine hK4 _ _ ?_
 refine go_cond hA (.tmp 14) (decide ((16 : Int) < (l.length : Int))) (fun hb6 => ?_) (fun hb6 => ?_)
 · have hhb6 := of_decide_eq_true hb6
   refine go_seq fun K7 hK7 => ?_
   refine q_reg [(15, .bool true)] [(2, .bool true)] ((Callable Try.prog 55 ∧ CallOk Try.prog (On w5) 55 [].toArray (.bool true)) ∧ TT ∧ True) hA H ⟨⟨callable_of, callOk_of fun w hw => by exact awakeP_any w⟩, tv, tv⟩ fun a w8 hA H hG => ?_
   refine hK7 _ _ ?_
   refine go_ret_ ?_
   refine ret_one 2 (.bool true) hA ?_
   exact ans_b' rfl H.below
 have hhb6 := of_decide_eq_false hb6
 refine go_skip ?_
 refine hK3 _ _ ?_
 refine go_seq fun K9 hK9 => ?_
 have hs2 : l.length ≤ 16 := by omega
 have hvl := verts_len l
 refine region_list ?_
 refine q_list 0 1 [] [(0, vl), (17, vl)] (TT ∧ True) hA H ⟨tv, tv⟩ fun a w10 hA H hG => ?_
 refine list_at 1 ?_; refine q_call 1 18 57 #[.tmp 17] #[66] [vl] (fun S v_ w' => Rd S w' v_ (l)) [(0, vl)] hA H (by exact of_any vl l H.at ((H.arg hL)) (by omega)) fun v11 a w12 S hR13 H hA hG => ?_
 replace H := H.ro hR13
 refine q_list 2 6 [(19, .tuple #[.int .i64 (kindK l), .bool (rightK l)])] [(0, vl), (3, iv (kindK l)), (4, .bool (rightK l))] ((Callable Try.prog 64 ∧ CallOk Try.prog (On w12) 64 [v11].toArray (.tuple #[.int .i64 (kindK l), .bool (rightK l)])) ∧ TT ∧ TT ∧ TT ∧ TT ∧ TT ∧ True) hA H ⟨⟨callable_of, callOk_of fun w hw => by exact kind_any v11 l w (((H.on hw).get 0 rfl)) (by omega) hwf⟩, tv, tv, tv, tv, tv, tv⟩ fun a w15 hA H hG => ?_
 refine list_end ?_
 refine hK9 _ _ ?_
 refine go_seq fun K16 hK16 => ?_
 refine region_list ?_
 refine q_list 0 1 [] [(0, vl), (3, iv (kindK l)), (4, .bool (rightK l)), (23, vl)] (TT ∧ True) hA H ⟨tv, tv⟩ fun a w17 hA H hG => ?_
 refine list_at 1 ?_; refine q_call 1 24 57 #[.tmp 23] #[66] [vl] (fun S v_ w' => Rd S w' v_ (l)) [(0, vl), (3, iv (kindK l)), (4, .bool (rightK l))] hA H (by exact of_any vl l H.at ((H.arg hL)) (by omega)) fun v18 a w19 S hR20 H hA hG => ?_
 replace H := H.ro hR20
 refine list_at 2 ?_; refine q_call 2 25 65 #[.tmp 24] #[69] [v18] _ [(0, vl), (3, iv (kindK l)), (4, .bool (rightK l))] hA H (by exact first_any v18 l H.at ((H.get 0 rfl)) (by omega) hwf) fun v22 a w23 S hR24 H hA hG => ?_
 obtain ⟨v22s, rfl, hR24s⟩ := hR24
 replace H := H.ro hR24s
 replace H : Fr _ _ _ [.ro v22s (firstD l).2.2, .ro v18 l, .ro v11 l] := H
 refine q_list 3 3 [] [(0, vl), (3, iv (kindK l)), (4, .bool (rightK l)), (26, .agg #[.int .i64 ((firstD l).1), .int .i64 ((firstD l).2.1), v22s]), (27, .bool ((firstK l).isSome))] (TT ∧ TT ∧ TT ∧ True) hA H ⟨tv, tv, tv, tv⟩ fun a w26 hA H hG => ?_
 refine list_at 6 ?_; refine q_alloc 6 5 81 [.int .i64 0, .int .i64 0, (.slice none 0 0)] [(0, vl), (3, iv (kindK l)), (4, .bool (rightK l)), (26, .agg #[.int .i64 ((firstD l).1), .int .i64 ((firstD l).2.1), v22s]), (27, .bool ((firstK l).isSome))] hA H fun b27 a w28 H hA hG hge_b27 => ?_
 clear hge_b27
 refine list_at 7 ?_; refine q_store 7 81 (.tmp 5) (.tmp 26) 0 b27 (0) 81 [.int .i64 0, .int .i64 0, (.slice none 0 0)] [.int .i64 ((firstD l).1), .int .i64 ((firstD l).2.1), v22s] [.int .i64 ((firstD l).1), .int .i64 ((firstD l).2.1), v22s] (.agg #[.int .i64 ((firstD l).1), .int .i64 ((firstD l).2.1), v22s]) [(0, vl), (3, iv (kindK l)), (4, .bool (rightK l)), (5, pv b27), (27, .bool ((firstK l).isSome))] hA H rfl rfl (Nat.le_of_ble_eq_true (by kernel_rfl)) rfl (fun v hv => by simp only [List.mem_cons, List.not_mem_nil, or_false] at hv; rcases hv with rfl | rfl | rfl; exact rfl; exact rfl; exact (rd_one (H.get 1 rfl))) fun a w29 H hA hG => ?_
 replace H : Fr _ _ _ [.box b27 81 [.int .i64 ((firstD l).1), .int .i64 ((firstD l).2.1), v22s], .ro v22s (firstD l).2.2, .ro v18 l, .ro v11 l] := H
 refine q_list 8 1 [] [(0, vl), (3, iv (kindK l)), (4, .bool (rightK l)), (5, pv b27), (6, .bool ((firstK l).isSome))] (TT ∧ True) hA H ⟨tv, tv⟩ fun a w30 hA H hG => ?_
 refine list_end ?_
 refine hK16 _ _ ?_
 refine go_seq fun K31 hK31 => ?_
 refine go_seq fun K32 hK32 => ?_
 refine q_reg [(29, .bool (rightK l))] [(0, vl), (3, iv (kindK l)), (4, .bool (rightK l)), (5, pv b27), (6, .bool ((firstK l).isSome)), (30, .bool (!(rightK l)))] (TT ∧ (Callable Try.prog 60 ∧ CallOk Try.prog (On w30) 60 [vl].toArray (.bool (rightK l))) ∧ TT ∧ True) hA H ⟨tv, ⟨callable_of, callOk_of fun w hw => by exact rright14_any vl l w (((H.on hw).arg hL)) (by omega)⟩, tv, tv⟩ fun a w33 hA H hG => ?_
 refine hK32 _ _ ?_
 refine go_cond hA (.tmp 30) (!(rightK l)) (fun hb34 => ?_) (fun hb34 => ?_)
 · have hhb34 := (nT hb34)
   refine go_seq fun K35 hK35 => ?_
   refine q_reg [(43, v22s), (44, iv (((firstD l).2.2).length : Int))] [(2, .bool ((((!(rightK l)) && (!((firstK l).isSome))) && (decide ((kindK l) = 0))) && (decide ((((firstD l).2.2).length : Int) = 0))))] (TT ∧ TT ∧ TT ∧ ((!(rightK l)) = true → True) ∧ ((!(rightK l)) = true → True) ∧ TT ∧ TT ∧ (((!(rightK l)) && (!((firstK l).isSome))) = true → True) ∧ (((!(rightK l)) && (!((firstK l).isSome))) = true → True) ∧ TT ∧ TT ∧ ((((!(rightK l)) && (!((firstK l).isSome))) && (decide ((kindK l) = 0))) = true → 0 < Try.prog.cellsOf 27) ∧ ((((!(rightK l)) && (!((firstK l).isSome))) && (decide ((kindK l) = 0))) = true → CellOk (On w33) b27 (0 + 2) (v22s)) ∧ ((((!(rightK l)) && (!((firstK l).isSome))) && (decide ((kindK l) = 0))) = true → LenOk v22s (((firstD l).2.2).length : Int)) ∧ ((((!(rightK l)) && (!((firstK l).isSome))) && (decide ((kindK l) = 0))) = true → True) ∧ TT ∧ TT ∧ True) hA H ⟨tv, tv, tv, fun _ => tv, fun _ => tv, tv, tv, fun _ => tv, fun _ => tv, tv, tv, fun _ => by decide +kernel, fun _ => by exact box_cell H 0 rfl 2, fun _ => by exact len_ok (H.get 1 rfl), fun _ => tv, tv, tv, tv⟩ fun a w36 hA H hG => ?_
   refine hK35 _ _ ?_
   refine go_ret_ ?_
   refine ret_one 2 (.bool ((((!(rightK l)) && (!((firstK l).isSome))) && (decide ((kindK l) = 0))) && (decide ((((firstD l).2.2).length : Int) = 0)))) hA ?_
   obtain ⟨k1, k2, k3⟩ := kinds_no (l := l) hhb34
   exact ans_b' (by rw [hhb34, k1, k2, k3]; rfl) H.below
 have hhb34 := (nF hb34)
 refine go_skip ?_
 refine hK31 _ _ ?_
 refine go_seq fun K37 hK37 => ?_
 have hr9 : rightK l = true := hhb34
 refine region_list ?_
 refine q_list 0 1 [] [(0, vl), (3, iv (kindK l)), (4, .bool (rightK l)), (5, pv b27), (6, .bool ((firstK l).isSome)), (47, vl)] (TT ∧ True) hA H ⟨tv, tv⟩ fun a w38 hA H hG => ?_
 refine list_at 1 ?_; refine q_call 1 48 66 #[.tmp 47] #[66] [vl] (fun S v_ w' => Rd S w' v_ ((splitsR l))) [(0, vl), (3, iv (kindK l)), (4, .bool (rightK l)), (5, pv b27), (6, .bool ((firstK l).isSome))] hA H (by exact rsplits_any vl l H.at ((H.arg hL)) (by omega) hwf) fun v39 a w40 S hR41 H hA hG => ?_
 replace H := H.ro hR41
 refine q_list 2 1 [] [(0, vl), (3, iv (kindK l)), (4, .bool (rightK l)), (5, pv b27), (6, .bool ((firstK l).isSome)), (7, v39)] (TT ∧ True) hA H ⟨tv, tv⟩ fun a w43 hA H hG => ?_
 refine list_end ?_
 refine hK37 _ _ ?_
 refine go_seq fun K44 hK44 => ?_
 refine go_seq fun K45 hK45 => ?_
 refine q_reg [(54, iv (kindR l)), (60, iv ((splitsR l).length : Int))] [(5, pv b27), (6, .bool ((firstK l).isSome)), (7, v39), (63, .bool (((!(rightK l)) || (!decide ((kindK l) = (kindR l)))) || (!(((firstK l).isSome) == (decide ((0 : Int) < ((splitsR l).length : Int)))))))] (TT ∧ TT ∧ TT ∧ ((!(rightK l)) = false → True) ∧ ((!(rightK l)) = false → True) ∧ ((!(rightK l)) = false → Callable Try.prog 67 ∧ CallOk Try.prog (On w43) 67 [vl].toArray (.int .i64 (kindR l))) ∧ ((!(rightK l)) = false → True) ∧ TT ∧ TT ∧ (((!(rightK l)) || (!decide ((kindK l) = (kindR l)))) = false → True) ∧ (((!(rightK l)) || (!decide ((kindK l) = (kindR l)))) = false → True) ∧ (((!(rightK l)) || (!decide ((kindK l) = (kindR l)))) = false → LenOk v39 ((splitsR l).length : Int)) ∧ (((!(rightK l)) || (!decide ((kindK l) = (kindR l)))) = false → True) ∧ (((!(rightK l)) || (!decide ((kindK l) = (kindR l)))) = false → Try.prog.underlying 4 = some .bool) ∧ TT ∧ True) hA H ⟨tv, tv, tv, fun _ => tv, fun _ => tv, fun hg0 => by replace hg0 := (nF hg0); exact ⟨callable_of, callOk_of fun w hw => by exact rkind_any vl l w (((H.on hw).arg hL)) (by omega) hwf⟩, fun _ => tv, tv, tv, fun _ => tv, fun _ => tv, fun _ => by exact len_ok (H.get 0 rfl), fun _ => tv, fun _ => Try.underlying4, tv, tv⟩ fun a w46 hA H hG => ?_
 refine hK45 _ _ ?_
 refine go_cond hA (.tmp 63) (((!(rightK l)) || (!decide ((kindK l) = (kindR l)))) || (!(((firstK l).isSome) == (decide ((0 : Int) < ((splitsR l).length : Int)))))) (fun hb47 => ?_) (fun hb47 => ?_)
 · have hhb47 := (oT hb47).imp (fun h => (oT h).imp (fun h => (nT h)) (fun h => of_decide_eq_false (nT h))) (fun h => h)
   exact (kinds_dead hr9 hhb47).elim
 have hhb47 := (⟨(⟨(nF ((oF ((oF hb47).1)).1)), of_decide_eq_true (nF ((oF ((oF hb47).1)).2))⟩ : _ ∧ _), (oF hb47).2⟩ : _ ∧ _)
 refine go_skip ?_
 refine hK44 _ _ ?_
 refine go_seq fun K48 hK48 => ?_
 rcases bool_two ((firstK l).isSome) with hs9 | hs9
 · rw [hs9] at hA
   obtain ⟨hm9, hfd⟩ := first_some hr9 hs9
   obtain ⟨tu49, htu49a, htu49b, htu49c, htu49r⟩ := cell_triC (C := On w46) H.keepsS (H.getS 0 rfl) 0 (by decide) hm9
   replace H := (H.ro htu49r).sink 1 5
   replace H : Fr _ _ _ [.ro v39 (splitsR l), .box b27 81 [.int .i64 ((firstD l).1), .int .i64 ((firstD l).2.1), v22s], .ro v22s (firstD l).2.2, .ro v18 l, .ro v11 l, .ro tu49 ((splitsR l).getD (0 : Int).toNat (0, (0, []))).2.2] := H
   refine q_draw [(68, v22s), (69, iv (((firstD l).2.2).length : Int)), (76, iv ((firstD l).1)), (80, iv (((splitsR l).getD (0 : Int).toNat (0, (0, []))).1)), (85, iv ((firstD l).2.1)), (89, iv (((splitsR l).getD (0 : Int).toNat (0, (0, []))).2.1)), (94, v22s), (98, tu49), (99, .bool (decide (((firstD l).2.2) = (((splitsR l).getD (0 : Int).toNat (0, (0, []))).2.2))))] [(2, .bool ((false && (decide ((((firstD l).2.2).length : Int) = 0))) || (((decide ((firstD l).1 = ((splitsR l).getD (0 : Int).toNat (0, (0, []))).1)) && (decide ((firstD l).2.1 = ((splitsR l).getD (0 : Int).toNat (0, (0, []))).2.1))) && (decide (((firstD l).2.2) = (((splitsR l).getD (0 : Int).toNat (0, (0, []))).2.2))))))] (TT ∧ TT ∧ TT ∧ ((false) = true → 0 < Try.prog.cellsOf 27) ∧ ((false) = true → CellOk (On w46) b27 (0 + 2) (v22s)) ∧ ((false) = true → LenOk v22s (((firstD l).2.2).length : Int)) ∧ ((false) = true → True) ∧ TT ∧ TT ∧ ((false && (decide ((((firstD l).2.2).length : Int) = 0))) = false → True) ∧ ((false && (decide ((((firstD l).2.2).length : Int) = 0))) = false → True) ∧ ((false && (decide ((((firstD l).2.2).length : Int) = 0))) = false → (true) = true → 0 < Try.prog.cellsOf 3) ∧ ((false && (decide ((((firstD l).2.2).length : Int) = 0))) = false → (true) = true → CellOk (On w46) b27 (0 + 0) (.int .i64 ((firstD l).1))) ∧ ((false && (decide ((((firstD l).2.2).length : Int) = 0))) = false → (true) = true → True) ∧ ((false && (decide ((((firstD l).2.2).length : Int) = 0))) = false → (true) = true → (Try.prog.info? 87).isSome = true ∧ IdxOk v39 0) ∧ ((false && (decide ((((firstD l).2.2).length : Int) = 0))) = false → (true) = true → 0 < Try.prog.cellsOf 3) ∧ ((false && (decide ((((firstD l).2.2).length : Int) = 0))) = false → (true) = true → CellOk (On w46) (hdB v39) (hdO v39 + (0 : Int).toNat * 3 + 0) (.int .i64 (((splitsR l).getD (0 : Int).toNat (0, (0, []))).1))) ∧ ((false && (decide ((((firstD l).2.2).length : Int) = 0))) = false → (true) = true → True) ∧ ((false && (decide ((((firstD l).2.2).length : Int) = 0))) = false → True) ∧ ((false && (decide ((((firstD l).2.2).length : Int) = 0))) = false → True) ∧ ((false && (decide ((((firstD l).2.2).length : Int) = 0))) = false → (decide ((firstD l).1 = ((splitsR l).getD (0 : Int).toNat (0, (0, []))).1)) = true → 0 < Try.prog.cellsOf 3) ∧ ((false && (decide ((((firstD l).2.2).length : Int) = 0))) = false → (decide ((firstD l).1 = ((splitsR l).getD (0 : Int).toNat (0, (0, []))).1)) = true → CellOk (On w46) b27 (0 + 1) (.int .i64 ((firstD l).2.1))) ∧ ((false && (decide ((((firstD l).2.2).length : Int) = 0))) = false → (decide ((firstD l).1 = ((splitsR l).getD (0 : Int).toNat (0, (0, []))).1)) = true → True) ∧ ((false && (decide ((((firstD l).2.2).length : Int) = 0))) = false → (decide ((firstD l).1 = ((splitsR l).getD (0 : Int).toNat (0, (0, []))).1)) = true → (Try.prog.info? 87).isSome = true ∧ IdxOk v39 0) ∧ ((false && (decide ((((firstD l).2.2).length : Int) = 0))) = false → (decide ((firstD l).1 = ((splitsR l).getD (0 : Int).toNat (0, (0, []))).1)) = true → 0 < Try.prog.cellsOf 3) ∧ ((false && (decide ((((firstD l).2.2).length : Int) = 0))) = false → (decide ((firstD l).1 = ((splitsR l).getD (0 : Int).toNat (0, (0, []))).1)) = true → CellOk (On w46) (hdB v39) (hdO v39 + (0 : Int).toNat * 3 + 1) (.int .i64 (((splitsR l).getD (0 : Int).toNat (0, (0, []))).2.1))) ∧ ((false && (decide ((((firstD l).2.2).length : Int) = 0))) = false → (decide ((firstD l).1 = ((splitsR l).getD (0 : Int).toNat (0, (0, []))).1)) = true → True) ∧ ((false && (decide ((((firstD l).2.2).length : Int) = 0))) = false → True) ∧ ((false && (decide ((((firstD l).2.2).length : Int) = 0))) = false → True) ∧ ((false && (decide ((((firstD l).2.2).length : Int) = 0))) = false → ((decide ((firstD l).1 = ((splitsR l).getD (0 : Int).toNat (0, (0, []))).1)) && (decide ((firstD l).2.1 = ((splitsR l).getD (0 : Int).toNat (0, (0, []))).2.1))) = true → 0 < Try.prog.cellsOf 27) ∧ ((false && (decide ((((firstD l).2.2).length : Int) = 0))) = false → ((decide ((firstD l).1 = ((splitsR l).getD (0 : Int).toNat (0, (0, []))).1)) && (decide ((firstD l).2.1 = ((splitsR l).getD (0 : Int).toNat (0, (0, []))).2.1))) = true → CellOk (On w46) b27 (0 + 2) (v22s)) ∧ ((false && (decide ((((firstD l).2.2).length : Int) = 0))) = false → ((decide ((firstD l).1 = ((splitsR l).getD (0 : Int).toNat (0, (0, []))).1)) && (decide ((firstD l).2.1 = ((splitsR l).getD (0 : Int).toNat (0, (0, []))).2.1))) = true → True) ∧ ((false && (decide ((((firstD l).2.2).length : Int) = 0))) = false → ((decide ((firstD l).1 = ((splitsR l).getD (0 : Int).toNat (0, (0, []))).1)) && (decide ((firstD l).2.1 = ((splitsR l).getD (0 : Int).toNat (0, (0, []))).2.1))) = true → (Try.prog.info? 87).isSome = true ∧ IdxOk v39 0) ∧ ((false && (decide ((((firstD l).2.2).length : Int) = 0))) = false → ((decide ((firstD l).1 = ((splitsR l).getD (0 : Int).toNat (0, (0, []))).1)) && (decide ((firstD l).2.1 = ((splitsR l).getD (0 : Int).toNat (0, (0, []))).2.1))) = true → 0 < Try.prog.cellsOf 27) ∧ ((false && (decide ((((firstD l).2.2).length : Int) = 0))) = false → ((decide ((firstD l).1 = ((splitsR l).getD (0 : Int).toNat (0, (0, []))).1)) && (decide ((firstD l).2.1 = ((splitsR l).getD (0 : Int).toNat (0, (0, []))).2.1))) = true → CellOk (On w46) (hdB v39) (hdO v39 + (0 : Int).toNat * 3 + 2) (tu49)) ∧ ((false && (decide ((((firstD l).2.2).length : Int) = 0))) = false → ((decide ((firstD l).1 = ((splitsR l).getD (0 : Int).toNat (0, (0, []))).1)) && (decide ((firstD l).2.1 = ((splitsR l).getD (0 : Int).toNat (0, (0, []))).2.1))) = true → Callable Try.prog 36 ∧ CallOk Try.prog (On w46) 36 [v22s, tu49].toArray (.bool (decide (((firstD l).2.2) = (((splitsR l).getD (0 : Int).toNat (0, (0, []))).2.2))))) ∧ ((false && (decide ((((firstD l).2.2).length : Int) = 0))) = false → True) ∧ TT ∧ TT ∧ True) hA H ⟨tv, tv, tv, fun _ => by decide +kernel, fun _ => by exact box_cell H 1 rfl 2, fun _ => by exact len_ok (H.get 2 rfl), fun _ => tv, tv, tv, fun _ => tv, fun _ => tv, fun _ _ => by decide +kernel, fun _ _ => by exact box_cell H 1 rfl 0, fun _ _ => tv, fun hg0 hg1 => by replace hg0 := (aF hg0).imp (fun h => h) (fun h => of_decide_eq_false h); replace hg1 := hg1; exact ⟨by kernel_rfl, by exact idx_ok (H.get 0 rfl) (by first | omega | exact absurd hg1 (by decide) | exact absurd hg1.1 (by decide) | exact absurd hg1.1.1 (by decide) | exact absurd hg0 (by decide)) (by first | omega | exact absurd hg1 (by decide) | exact absurd hg1.1 (by decide) | exact absurd hg1.1.1 (by decide) | exact absurd hg0 (by decide))⟩, fun _ _ => by decide +kernel, fun _ _ => by exact htu49a, fun _ _ => tv, fun _ => tv, fun _ => tv, fun _ _ => by decide +kernel, fun _ _ => by exact box_cell H 1 rfl 1, fun _ _ => tv, fun hg0 hg1 => by replace hg0 := (aF hg0).imp (fun h => h) (fun h => of_decide_eq_false h); replace hg1 := of_decide_eq_true hg1; exact ⟨by kernel_rfl, by exact idx_ok (H.get 0 rfl) (by first | omega | exact absurd hg1 (by decide) | exact absurd hg1.1 (by decide) | exact absurd hg1.1.1 (by decide) | exact absurd hg0 (by decide)) (by first | omega | exact absurd hg1 (by decide) | exact absurd hg1.1 (by decide) | exact absurd hg1.1.1 (by decide) | exact absurd hg0 (by decide))⟩, fun _ _ => by decide +kernel, fun _ _ => by exact htu49b, fun _ _ => tv, fun _ => tv, fun _ => tv, fun _ _ => by decide +kernel, fun _ _ => by exact box_cell H 1 rfl 2, fun _ _ => tv, fun hg0 hg1 => by replace hg0 := (aF hg0).imp (fun h => h) (fun h => of_decide_eq_false h); replace hg1 := (⟨of_decide_eq_true ((aT hg1).1), of_decide_eq_true ((aT hg1).2)⟩ : _ ∧ _); exact ⟨by kernel_rfl, by exact idx_ok (H.get 0 rfl) (by first | omega | exact absurd hg1 (by decide) | exact absurd hg1.1 (by decide) | exact absurd hg1.1.1 (by decide) | exact absurd hg0 (by decide)) (by first | omega | exact absurd hg1 (by decide) | exact absurd hg1.1 (by decide) | exact absurd hg1.1.1 (by decide) | exact absurd hg0 (by decide))⟩, fun _ _ => by decide +kernel, fun _ _ => by exact htu49c, fun _ _ => ⟨callable_of, callOk_of fun w hw => by exact requal_any v22s tu49 ((firstD l).2.2) (((splitsR l).getD (0 : Int).toNat (0, (0, []))).2.2) w (((H.on hw).get 2 rfl)) (((H.on hw).get 5 rfl))⟩, fun _ => tv, tv, tv, tv⟩ fun a w50 hA H hG => ?_
   refine hK48 _ _ ?_
   refine go_ret_ ?_
   refine ret_one 2 (.bool ((false && (decide ((((firstD l).2.2).length : Int) = 0))) || (((decide ((firstD l).1 = ((splitsR l).getD (0 : Int).toNat (0, (0, []))).1)) && (decide ((firstD l).2.1 = ((splitsR l).getD (0 : Int).toNat (0, (0, []))).2.1))) && (decide (((firstD l).2.2) = (((splitsR l).getD (0 : Int).toNat (0, (0, []))).2.2)))))) hA ?_
   exact ans_b' (by rw [hfd]; simp) H.below
 rw [hs9] at hA
 have hfd := first_none hs9
 refine q_draw [(68, v22s), (69, iv (((firstD l).2.2).length : Int)), (76, iv ((firstD l).1)), (80, iv 0), (85, iv ((firstD l).2.1)), (89, iv 0), (94, v22s), (98, (.slice none 0 0)), (99, .bool (decide (((firstD l).2.2) = [])))] [(2, .bool ((decide ((((firstD l).2.2).length : Int) = 0)) || (((false && (decide ((firstD l).1 = 0))) && (decide ((firstD l).2.1 = 0))) && (decide (((firstD l).2.2) = [])))))] (TT ∧ TT ∧ TT ∧ ((true) = true → 0 < Try.prog.cellsOf 27) ∧ ((true) = true → CellOk (On w46) b27 (0 + 2) (v22s)) ∧ ((true) = true → LenOk v22s (((firstD l).2.2).length : Int)) ∧ ((true) = true → True) ∧ TT ∧ TT ∧ ((decide ((((firstD l).2.2).length : Int) = 0)) = false → True) ∧ ((decide ((((firstD l).2.2).length : Int) = 0)) = false → True) ∧ ((decide ((((firstD l).2.2).length : Int) = 0)) = false → (false) = true → 0 < Try.prog.cellsOf 3) ∧ ((decide ((((firstD l).2.2).length : Int) = 0)) = false → (false) = true → CellOk (On w46) b27 (0 + 0) (.int .i64 ((firstD l).1))) ∧ ((decide ((((firstD l).2.2).length : Int) = 0)) = false → (false) = true → True) ∧ ((decide ((((firstD l).2.2).length : Int) = 0)) = false → (false) = true → (Try.prog.info? 87).isSome = true ∧ IdxOk v39 0) ∧ ((decide ((((firstD l).2.2).length : Int) = 0)) = false → (false) = true → 0 < Try.prog.cellsOf 3) ∧ ((decide ((((firstD l).2.2).length : Int) = 0)) = false → (false) = true → CellOk (On w46) (hdB v39) (hdO v39 + (0 : Int).toNat * 3 + 0) (.int .i64 0)) ∧ ((decide ((((firstD l).2.2).length : Int) = 0)) = false → (false) = true → True) ∧ ((decide ((((firstD l).2.2).length : Int) = 0)) = false → True) ∧ ((decide ((((firstD l).2.2).length : Int) = 0)) = false → True) ∧ ((decide ((((firstD l).2.2).length : Int) = 0)) = false → (false && (decide ((firstD l).1 = 0))) = true → 0 < Try.prog.cellsOf 3) ∧ ((decide ((((firstD l).2.2).length : Int) = 0)) = false → (false && (decide ((firstD l).1 = 0))) = true → CellOk (On w46) b27 (0 + 1) (.int .i64 ((firstD l).2.1))) ∧ ((decide ((((firstD l).2.2).length : Int) = 0)) = false → (false && (decide ((firstD l).1 = 0))) = true → True) ∧ ((decide ((((firstD l).2.2).length : Int) = 0)) = false → (false && (decide ((firstD l).1 = 0))) = true → (Try.prog.info? 87).isSome = true ∧ IdxOk v39 0) ∧ ((decide ((((firstD l).2.2).length : Int) = 0)) = false → (false && (decide ((firstD l).1 = 0))) = true → 0 < Try.prog.cellsOf 3) ∧ ((decide ((((firstD l).2.2).length : Int) = 0)) = false → (false && (decide ((firstD l).1 = 0))) = true → CellOk (On w46) (hdB v39) (hdO v39 + (0 : Int).toNat * 3 + 1) (.int .i64 0)) ∧ ((decide ((((firstD l).2.2).length : Int) = 0)) = false → (false && (decide ((firstD l).1 = 0))) = true → True) ∧ ((decide ((((firstD l).2.2).length : Int) = 0)) = false → True) ∧ ((decide ((((firstD l).2.2).length : Int) = 0)) = false → True) ∧ ((decide ((((firstD l).2.2).length : Int) = 0)) = false → ((false && (decide ((firstD l).1 = 0))) && (decide ((firstD l).2.1 = 0))) = true → 0 < Try.prog.cellsOf 27) ∧ ((decide ((((firstD l).2.2).length : Int) = 0)) = false → ((false && (decide ((firstD l).1 = 0))) && (decide ((firstD l).2.1 = 0))) = true → CellOk (On w46) b27 (0 + 2) (v22s)) ∧ ((decide ((((firstD l).2.2).length : Int) = 0)) = false → ((false && (decide ((firstD l).1 = 0))) && (decide ((firstD l).2.1 = 0))) = true → True) ∧ ((decide ((((firstD l).2.2).length : Int) = 0)) = false → ((false && (decide ((firstD l).1 = 0))) && (decide ((firstD l).2.1 = 0))) = true → (Try.prog.info? 87).isSome = true ∧ IdxOk v39 0) ∧ ((decide ((((firstD l).2.2).length : Int) = 0)) = false → ((false && (decide ((firstD l).1 = 0))) && (decide ((firstD l).2.1 = 0))) = true → 0 < Try.prog.cellsOf 27) ∧ ((decide ((((firstD l).2.2).length : Int) = 0)) = false → ((false && (decide ((firstD l).1 = 0))) && (decide ((firstD l).2.1 = 0))) = true → CellOk (On w46) (hdB v39) (hdO v39 + (0 : Int).toNat * 3 + 2) ((.slice none 0 0))) ∧ ((decide ((((firstD l).2.2).length : Int) = 0)) = false → ((false && (decide ((firstD l).1 = 0))) && (decide ((firstD l).2.1 = 0))) = true → Callable Try.prog 36 ∧ CallOk Try.prog (On w46) 36 [v22s, (.slice none 0 0)].toArray (.bool (decide (((firstD l).2.2) = [])))) ∧ ((decide ((((firstD l).2.2).length : Int) = 0)) = false → True) ∧ TT ∧ TT ∧ True) hA H ⟨tv, tv, tv, fun _ => by decide +kernel, fun _ => by exact box_cell H 1 rfl 2, fun _ => by exact len_ok (H.get 2 rfl), fun _ => tv, tv, tv, fun _ => tv, fun _ => tv, fun _ _ => by decide +kernel, fun _ _ => by exact box_cell H 1 rfl 0, fun _ _ => tv, fun hg0 hg1 => by replace hg0 := of_decide_eq_false hg0; replace hg1 := hg1; exact ⟨by kernel_rfl, by exact idx_ok (H.get 0 rfl) (by first | omega | exact absurd hg1 (by decide) | exact absurd hg1.1 (by decide) | exact absurd hg1.1.1 (by decide) | exact absurd hg0 (by decide)) (by first | omega | exact absurd hg1 (by decide) | exact absurd hg1.1 (by decide) | exact absurd hg1.1.1 (by decide) | exact absurd hg0 (by decide))⟩, fun _ _ => by decide +kernel, fun hg0 hg1 => by replace hg0 := of_decide_eq_false hg0; replace hg1 := hg1; exact (by first | exact absurd hg1 (by decide) | exact absurd hg1.1 (by decide) | exact absurd hg1.1.1 (by decide) | exact absurd hg0 (by decide) | omega), fun _ _ => tv, fun _ => tv, fun _ => tv, fun _ _ => by decide +kernel, fun _ _ => by exact box_cell H 1 rfl 1, fun _ _ => tv, fun hg0 hg1 => by replace hg0 := of_decide_eq_false hg0; replace hg1 := (⟨(aT hg1).1, of_decide_eq_true ((aT hg1).2)⟩ : _ ∧ _); exact ⟨by kernel_rfl, by exact idx_ok (H.get 0 rfl) (by first | omega | exact absurd hg1 (by decide) | exact absurd hg1.1 (by decide) | exact absurd hg1.1.1 (by decide) | exact absurd hg0 (by decide)) (by first | omega | exact absurd hg1 (by decide) | exact absurd hg1.1 (by decide) | exact absurd hg1.1.1 (by decide) | exact absurd hg0 (by decide))⟩, fun _ _ => by decide +kernel, fun hg0 hg1 => by replace hg0 := of_decide_eq_false hg0; replace hg1 := (⟨(aT hg1).1, of_decide_eq_true ((aT hg1).2)⟩ : _ ∧ _); exact (by first | exact absurd hg1 (by decide) | exact absurd hg1.1 (by decide) | exact absurd hg1.1.1 (by decide) | exact absurd hg0 (by decide) | omega), fun _ _ => tv, fun _ => tv, fun _ => tv, fun _ _ => by decide +kernel, fun _ _ => by exact box_cell H 1 rfl 2, fun _ _ => tv, fun hg0 hg1 => by replace hg0 := of_decide_eq_false hg0; replace hg1 := (⟨(⟨(aT ((aT hg1).1)).1, of_decide_eq_true ((aT ((aT hg1).1)).2)⟩ : _ ∧ _), of_decide_eq_true ((aT hg1).2)⟩ : _ ∧ _); exact ⟨by kernel_rfl, by exact idx_ok (H.get 0 rfl) (by first | omega | exact absurd hg1 (by decide) | exact absurd hg1.1 (by decide) | exact absurd hg1.1.1 (by decide) | exact absurd hg0 (by decide)) (by first | omega | exact absurd hg1 (by decide) | exact absurd hg1.1 (by decide) | exact absurd hg1.1.1 (by decide) | exact absurd hg0 (by decide))⟩, fun _ _ => by decide +kernel, fun hg0 hg1 => by replace hg0 := of_decide_eq_false hg0; replace hg1 := (⟨(⟨(aT ((aT hg1).1)).1, of_decide_eq_true ((aT ((aT hg1).1)).2)⟩ : _ ∧ _), of_decide_eq_true ((aT hg1).2)⟩ : _ ∧ _); exact (by first | exact absurd hg1 (by decide) | exact absurd hg1.1 (by decide) | exact absurd hg1.1.1 (by decide) | exact absurd hg0 (by decide) | omega), fun _ _ => ⟨callable_of, callOk_of fun w hw => by exact requal_any v22s (.slice none 0 0) ((firstD l).2.2) [] w (((H.on hw).get 2 rfl)) (rd_nil)⟩, fun _ => tv, tv, tv, tv⟩ fun a w51 hA H hG => ?_
 refine hK48 _ _ ?_
 refine go_ret_ ?_
 refine ret_one 2 (.bool ((decide ((((firstD l).2.2).length : Int) = 0)) || (((false && (decide ((firstD l).1 = 0))) && (decide ((firstD l).2.1 = 0))) && (decide (((firstD l).2.2) = []))))) hA ?_
 exact ans_b' (by rw [hfd]; simp) H.below
end Go.Proofs.Ytahonnlgkmimlaa
