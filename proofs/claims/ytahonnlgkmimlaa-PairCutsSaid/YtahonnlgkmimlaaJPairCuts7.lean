/-
 Texts joined by program: WalkQ9, WalkQ10, PairK, WalkQ12, PairL, PairM, PairN, PairO, PairP, PairQ, PairT, WalkQ16.
-/
import Derived.Test.YtahonnlgkmimlaaProg
import Derived.Test.YtahonnlgkmimlaaJPairCuts6
set_option linter.unusedSimpArgs false
set_option linter.unusedVariables false
set_option maxRecDepth 100000
set_option maxHeartbeats 8000000
namespace Go.Proofs.Ytahonnlgkmimlaa
open Go.RowKit
theorem of_any (vl : Value) (l : List (Int × Int × Int)) (o : Orig) (hL : Rd (· < o.w.heap.size) o.w vl l) (hs : l.length ≤ 100000) :
 Calls Try.prog 57 [vl].toArray o.w (Giv o (fun S v w' => Rd S w' v (l))) := by
 refine enter Try.f57 31 Try.func57 fun a hA => ?_
 replace hA := env_sub [(0, vl)] hA
 have H := Fr.start o
 refine go_seq fun K1 hK1 => ?_
 refine q_reg [] [(0, vl)] (TT ∧ True) hA H ⟨tv, tv⟩ fun a w2 hA H hG => ?_
 refine hK1 _ _ ?_
 refine go_seq fun K3 hK3 => ?_
 refine q_reg [] [(0, vl), (3, (.slice none 0 0))] (TT ∧ True) hA H ⟨tv, tv⟩ fun a w4 hA H hG => ?_
 refine hK3 _ _ ?_
 refine go_seq fun K5 hK5 => ?_
 refine go_seq fun K6 hK6 => ?_
 refine q_reg [] [(0, vl), (3, (.slice none 0 0)), (4, iv 0)] (TT ∧ True) hA H ⟨tv, tv⟩ fun a w7 hA H hG => ?_
 refine hK6 _ _ ?_
 refine go_block 0 ?_
 replace H := H.newRow (α := Int × Int × Int) 92
 refine go_loop_ (Int × Value × List (Int × Int × Int)) (fun x_ a W => (fun (i : Int) (vr : Value) (e : List (Int × Int × Int)) => EnvOk 31 a (keepEnv [(0, vl), (3, vr), (4, iv i)]) ∧ (∃ S, Fr o W S [.row 92 vr e]) ∧ 0 ≤ i ∧ i ≤ (l.length : Int) ∧ (e.length : Int) ≤ i ∧ e = l.take i.toNat) x_.1 x_.2.1 x_.2.2) (fun x_ => (fun (i : Int) (vr : Value) (e : List (Int × Int × Int)) => ((l.length : Int) - i).toNat) x_.1 x_.2.1 x_.2.2) (0, .slice none 0 0, []) ?_ (fun x_ a w9 hI => ?_)
 · (try dsimp only); exact ⟨env_sub _ hA, ⟨_, H⟩, by omega, by omega, by simp, by simp⟩
 obtain ⟨i, vr, e⟩ := x_
 obtain ⟨hA, ⟨S, H⟩, h0, h0b, h1, hi⟩ := hI
 try dsimp only at h0 h0b h1 hi
 replace H : Fr _ _ _ [.row 92 vr e] := H
 refine go_seq fun K10 hK10 => ?_
 refine go_seq fun K11 hK11 => ?_
 refine q_reg [(7, iv (l.length : Int))] [(0, vl), (3, vr), (4, iv i), (8, .bool (decide (i < (l.length : Int))))] (TT ∧ TT ∧ (LenOk vl (l.length : Int)) ∧ TT ∧ True) hA H ⟨tv, tv, by exact len_ok (H.arg hL), tv, tv⟩ fun a w12 hA H hG => ?_
 refine hK11 _ _ ?_
 refine go_cond hA (.tmp 8) (decide (i < (l.length : Int))) (fun hb13 => ?_) (fun hb13 => ?_)
 · have hhb13 := of_decide_eq_true hb13
   refine go_skip ?_
   refine hK10 _ _ ?_
   refine go_seq fun K14 hK14 => ?_
   refine go_block 1 ?_
   have H0 := H
   have hM0 := H0.keeps vr.ownBlock (.inr ⟨_, List.mem_of_getElem? (i := 0) rfl, rfl⟩)
   refine region_mix (But w12 vr.ownBlock) [0, 1, 2, 3, 4, 5, 6, 7, 8, 9, 10, 11, 12, 13, 14, 15, 16, 17, 18] 20 ?_
   replace H := H.drawn; have hD := But.drew w12 vr.ownBlock
   generalize ({ w12 with drawn := w12.drawn + 1 } : World) = w15 at H hD ⊢
   refine m_take (n := 3) [0, 1, 2, 3, 4, 5, 6, 7, 8, 9, 10, 11, 12, 13, 14, 15, 16] #[true, true, true, true, true, true, true, true, true, true, true, true, true, true, true, true, true, false, false, false] [(16, iv ((l.getD i.toNat (0, (0, 0))).1)), (21, iv (((l.getD i.toNat (0, (0, 0))).2).1)), (26, iv (((l.getD i.toNat (0, (0, 0))).2).2)), (27, .agg #[.int .i64 ((l.getD i.toNat (0, (0, 0))).1), .int .i64 (((l.getD i.toNat (0, (0, 0))).2).1), .int .i64 (((l.getD i.toNat (0, (0, 0))).2).2)])] [(0, vl), (3, vr), (4, iv i), (11, vr), (27, .agg #[.int .i64 ((l.getD i.toNat (0, (0, 0))).1), .int .i64 (((l.getD i.toNat (0, (0, 0))).2).1), .int .i64 (((l.getD i.toNat (0, (0, 0))).2).2)])] (TT ∧ TT ∧ TT ∧ ((Try.prog.info? 113).isSome = true ∧ IdxOk vl i) ∧ (0 < Try.prog.cellsOf 3) ∧ (CellOk (But w12 vr.ownBlock) (hdB vl) (hdO vl + i.toNat * 3 + 0) (.int .i64 ((l.getD i.toNat (0, (0, 0))).1))) ∧ TT ∧ TT ∧ ((Try.prog.info? 113).isSome = true ∧ IdxOk vl i) ∧ (0 < Try.prog.cellsOf 3) ∧ (CellOk (But w12 vr.ownBlock) (hdB vl) (hdO vl + i.toNat * 3 + 1) (.int .i64 (((l.getD i.toNat (0, (0, 0))).2).1))) ∧ TT ∧ TT ∧ ((Try.prog.info? 113).isSome = true ∧ IdxOk vl i) ∧ (0 < Try.prog.cellsOf 3) ∧ (CellOk (But w12 vr.ownBlock) (hdB vl) (hdO vl + i.toNat * 3 + 2) (.int .i64 (((l.getD i.toNat (0, (0, 0))).2).2))) ∧ (∀ w, (Instr.build 92 #[(0, iv ((l.getD i.toNat (0, (0, 0))).1)), (1, iv (((l.getD i.toNat (0, (0, 0))).2).1)), (2, iv (((l.getD i.toNat (0, (0, 0))).2).2))]).run Try.prog w = .ok (.agg #[.int .i64 ((l.getD i.toNat (0, (0, 0))).1), .int .i64 (((l.getD i.toNat (0, (0, 0))).2).1), .int .i64 (((l.getD i.toNat (0, (0, 0))).2).2)]) w) ∧ True) hA hD ⟨tv, tv, tv, ⟨by kernel_rfl, by exact idx_ok (H0.argT hL) (by omega) (by omega)⟩, by decide +kernel, by exact cell_flatC hM0 (i := i) (H0.argT hL) (by omega) (by omega) (0, (0, 0)) 0, tv, tv, ⟨by kernel_rfl, by exact idx_ok (H0.argT hL) (by omega) (by omega)⟩, by decide +kernel, by exact cell_flatC hM0 (i := i) (H0.argT hL) (by omega) (by omega) (0, (0, 0)) 1, tv, tv, ⟨by kernel_rfl, by exact idx_ok (H0.argT hL) (by omega) (by omega)⟩, by decide +kernel, by exact cell_flatC hM0 (i := i) (H0.argT hL) (by omega) (by omega) (0, (0, 0)) 2, fun w => by kernel_rfl, tv⟩ fun a hA => ?_
   refine m_one 17 ?_; refine q_lit 17 28 69 1 #[(0, .tmp 27)] 92 [(0, .agg #[.int .i64 ((l.getD i.toNat (0, (0, 0))).1), .int .i64 (((l.getD i.toNat (0, (0, 0))).2).1), .int .i64 (((l.getD i.toNat (0, (0, 0))).2).2)])] [.int .i64 ((l.getD i.toNat (0, (0, 0))).1), .int .i64 (((l.getD i.toNat (0, (0, 0))).2).1), .int .i64 (((l.getD i.toNat (0, (0, 0))).2).2)] [(0, vl), (3, vr), (4, iv i), (11, vr)] hA H fun b16 a w17 H hA hG hge_b16 => ?_
   replace hge_b16 := Nat.le_trans hD.1 hge_b16
   replace hD := hD.below hG
   refine ⟨fun _ => hD, ?_⟩
   refine m_one 18 ?_; refine q_push 18 29 (.tmp 11) (.tmp 28) 1 0 b16 1 1 vr e [((l.getD i.toNat (0, (0, 0))).1, (((l.getD i.toNat (0, (0, 0))).2).1, ((l.getD i.toNat (0, (0, 0))).2).2))] [.int .i64 ((l.getD i.toNat (0, (0, 0))).1), .int .i64 (((l.getD i.toNat (0, (0, 0))).2).1), .int .i64 (((l.getD i.toNat (0, (0, 0))).2).2)] [(0, vl), (3, vr), (4, iv i)] hA H Try.E69 rfl rfl (by exact (RowRd.single (α := Int × Int × Int) ⟨[_], _, rfl, rfl, ⟨[_], _, rfl, rfl, rfl⟩⟩)) rfl (by simp only [List.length_cons, List.length_nil, List.length_append]; omega) (by decide) fun v18 a w19 H hA hG => ?_
   replace H : Fr _ _ _ [.row 92 v18 (e ++ [((l.getD i.toNat (0, (0, 0))).1, (((l.getD i.toNat (0, (0, 0))).2).1, ((l.getD i.toNat (0, (0, 0))).2).2))])] := H.drop 0
   replace hD := hD.grown hG (fun b hb => .inl hb.symm)
   refine ⟨fun _ => hD, ?_⟩
   refine m_one 19 ?_; refine q_one 19 [] [(0, vl), (3, v18), (4, iv i)] (TT ∧ True) hA H ⟨tv, tv⟩ fun a w20 H hA hG => ?_
   refine ⟨fun h => absurd h (by decide), ?_⟩
   refine m_end ?_
   refine hK14 _ _ ?_
   refine q_reg [] [(0, vl), (3, v18), (4, iv (i + 1))] (TT ∧ (InR .i64 (i + 1)) ∧ TT ∧ True) hA H ⟨tv, ⟨by omega, by omega⟩, tv, tv⟩ fun a w21 hA H hG => ?_
   refine ⟨(i + 1, v18, e ++ [((l.getD i.toNat (0, (0, 0))).1, (((l.getD i.toNat (0, (0, 0))).2).1, ((l.getD i.toNat (0, (0, 0))).2).2))]), ⟨env_sub _ hA, ⟨_, H⟩, ?_⟩, ?_⟩
   · (try dsimp only); exact ⟨by omega, by omega, by (try simp only [List.length_append, List.length_cons, List.length_nil]); omega, by rw [take_snocK h0 (by omega), ← hi]⟩
   (try dsimp only); omega
 have hhb13 := of_decide_eq_false hb13
 refine go_exit 0 ?_
 refine hK5 _ _ ?_
 refine go_seq fun K22 hK22 => ?_
 refine q_reg [] [(2, vr)] (TT ∧ TT ∧ True) hA H ⟨tv, tv, tv⟩ fun a w23 hA H hG => ?_
 refine hK22 _ _ ?_
 refine go_ret_ ?_
 refine ret_one 2 vr hA ?_
 have ho := (H.give 0 rfl)
 rw [List.take_of_length_le (by omega)] at hi; rw [hi] at ho; exact ⟨_, rfl, ho, H.below⟩
theorem named_any (vl : Value) (l : List (Int × Int × Int)) (id : Int) (w : World) (hL : Rd (· < w.heap.size) w vl l) (hs : l.length ≤ 100000) :
 Calls Try.prog 69 [vl, .int .i64 id].toArray w (Ans (.bool (l.any fun b => decide (b.2.2 = id))) w) := by
 refine enter Try.f69 19 Try.func69 fun a hA => ?_
 replace hA := env_sub [(0, vl), (1, iv id)] hA
 have H := Fr.start (org w)
 refine go_seq fun K1 hK1 => ?_
 refine q_reg [] [(0, vl), (1, iv id)] (TT ∧ True) hA H ⟨tv, tv⟩ fun a w2 hA H hG => ?_
 refine hK1 _ _ ?_
 refine go_seq fun K3 hK3 => ?_
 refine go_seq fun K4 hK4 => ?_
 refine q_reg [] [(0, vl), (1, iv id), (5, iv 0)] (TT ∧ True) hA H ⟨tv, tv⟩ fun a w5 hA H hG => ?_
 refine hK4 _ _ ?_
 refine go_block 0 ?_
 refine go_loop_ (Int) (fun x_ a W => (fun (i : Int) => EnvOk 19 a (keepEnv [(0, vl), (1, iv id), (5, iv i)]) ∧ (∃ S, Fr (org w) W S []) ∧ 0 ≤ i ∧ ∀ j : Nat, (j : Int) < i → ¬ (l.getD j (0, (0, 0))).2.2 = id) x_) (fun x_ => (fun (i : Int) => ((l.length : Int) - i).toNat) x_) (0) ?_ (fun i a w7 hI => ?_)
 · (try dsimp only); exact ⟨env_sub _ hA, ⟨_, H⟩, by omega, fun j hj => by omega⟩
 obtain ⟨hA, ⟨S, H⟩, h0, hok⟩ := hI
 try dsimp only at h0 hok
 refine go_seq fun K8 hK8 => ?_
 refine go_seq fun K9 hK9 => ?_
 refine q_reg [(8, iv (l.length : Int))] [(0, vl), (1, iv id), (5, iv i), (9, .bool (decide (i < (l.length : Int))))] (TT ∧ TT ∧ (LenOk vl (l.length : Int)) ∧ TT ∧ True) hA H ⟨tv, tv, by exact len_ok (H.arg hL), tv, tv⟩ fun a w10 hA H hG => ?_
 refine hK9 _ _ ?_
 refine go_cond hA (.tmp 9) (decide (i < (l.length : Int))) (fun hb11 => ?_) (fun hb11 => ?_)
 · have hhb11 := of_decide_eq_true hb11
   refine go_skip ?_
   refine hK8 _ _ ?_
   refine go_seq fun K12 hK12 => ?_
   refine go_block 1 ?_
   refine go_seq fun K13 hK13 => ?_
   refine q_reg [(16, iv (((l.getD i.toNat (0, (0, 0))).2).2))] [(0, vl), (1, iv id), (5, iv i), (18, .bool (decide (((l.getD i.toNat (0, (0, 0))).2).2 = id)))] (TT ∧ TT ∧ ((Try.prog.info? 113).isSome = true ∧ IdxOk vl i) ∧ (0 < Try.prog.cellsOf 3) ∧ (CellOk (On w10) (hdB vl) (hdO vl + i.toNat * 3 + 2) (.int .i64 (((l.getD i.toNat (0, (0, 0))).2).2))) ∧ TT ∧ TT ∧ True) hA H ⟨tv, tv, ⟨by kernel_rfl, by exact idx_ok (H.arg hL) (by omega) (by omega)⟩, by decide +kernel, by exact cell_flat (i := i) (H.arg hL) (by omega) (by omega) (0, (0, 0)) 2, tv, tv, tv⟩ fun a w14 hA H hG => ?_
   refine hK13 _ _ ?_
   refine go_cond hA (.tmp 18) (decide (((l.getD i.toNat (0, (0, 0))).2).2 = id)) (fun hb15 => ?_) (fun hb15 => ?_)
   · have hhb15 := of_decide_eq_true hb15
     refine go_seq fun K16 hK16 => ?_
     refine q_reg [] [(4, .bool true)] (TT ∧ True) hA H ⟨tv, tv⟩ fun a w17 hA H hG => ?_
     refine hK16 _ _ ?_
     refine go_ret_ ?_
     refine ret_one 4 (.bool true) hA ?_
     exact ans_b' ((any_yes (j := i.toNat) (by omega) hhb15).symm) H.below
   have hhb15 := of_decide_eq_false hb15
   refine go_skip ?_
   refine hK12 _ _ ?_
   refine q_reg [] [(0, vl), (1, iv id), (5, iv (i + 1))] (TT ∧ (InR .i64 (i + 1)) ∧ TT ∧ True) hA H ⟨tv, ⟨by omega, by omega⟩, tv, tv⟩ fun a w18 hA H hG => ?_
   refine ⟨(i + 1), ⟨env_sub _ hA, ⟨_, H⟩, ?_⟩, ?_⟩
   · (try dsimp only); exact ⟨by omega, fun j hj => if e : (j : Int) = i then (by rw [show j = i.toNat by omega]; exact hhb15) else hok j (by omega)⟩
   (try dsimp only); omega
 have hhb11 := of_decide_eq_false hb11
 refine go_exit 0 ?_
 refine hK3 _ _ ?_
 refine go_seq fun K19 hK19 => ?_
 refine q_reg [] [(4, .bool false)] (TT ∧ True) hA H ⟨tv, tv⟩ fun a w20 hA H hG => ?_
 refine hK19 _ _ ?_
 refine go_ret_ ?_
 refine ret_one 4 (.bool false) hA ?_
 exact ans_b' ((any_no (fun j hj => hok j (by omega))).symm) H.below
theorem awakeP_any  (w : World) :
 Calls Try.prog 55 [].toArray w (Ans (.bool true) w) := by
 refine enter Try.f55 30 Try.func55 fun a hA => ?_
 replace hA := env_sub [] hA
 have H := Fr.start (org w)
 refine go_seq fun K1 hK1 => ?_
 refine q_reg [] [] (TT ∧ True) hA H ⟨tv, tv⟩ fun a w2 hA H hG => ?_
 refine hK1 _ _ ?_
 refine go_seq fun K3 hK3 => ?_
 refine region_list ?_
 refine q_list 0 5 [(4, .agg #[.int .i64 0, .int .i64 1, .int .i64 0]), (5, .agg #[.int .i64 1, .int .i64 2, .int .i64 1]), (6, .agg #[.int .i64 2, .int .i64 3, .int .i64 2]), (7, .agg #[.int .i64 3, .int .i64 0, .int .i64 3]), (8, .agg #[.int .i64 0, .int .i64 2, .int .i64 4])] [(4, .agg #[.int .i64 0, .int .i64 1, .int .i64 0]), (5, .agg #[.int .i64 1, .int .i64 2, .int .i64 1]), (6, .agg #[.int .i64 2, .int .i64 3, .int .i64 2]), (7, .agg #[.int .i64 3, .int .i64 0, .int .i64 3]), (8, .agg #[.int .i64 0, .int .i64 2, .int .i64 4])] ((∀ w, (Instr.build 92 #[(0, iv 0), (1, iv 1), (2, iv 0)]).run Try.prog w = .ok (.agg #[.int .i64 0, .int .i64 1, .int .i64 0]) w) ∧ (∀ w, (Instr.build 92 #[(0, iv 1), (1, iv 2), (2, iv 1)]).run Try.prog w = .ok (.agg #[.int .i64 1, .int .i64 2, .int .i64 1]) w) ∧ (∀ w, (Instr.build 92 #[(0, iv 2), (1, iv 3), (2, iv 2)]).run Try.prog w = .ok (.agg #[.int .i64 2, .int .i64 3, .int .i64 2]) w) ∧ (∀ w, (Instr.build 92 #[(0, iv 3), (1, iv 0), (2, iv 3)]).run Try.prog w = .ok (.agg #[.int .i64 3, .int .i64 0, .int .i64 3]) w) ∧ (∀ w, (Instr.build 92 #[(0, iv 0), (1, iv 2), (2, iv 4)]).run Try.prog w = .ok (.agg #[.int .i64 0, .int .i64 2, .int .i64 4]) w) ∧ True) hA H ⟨fun w => by kernel_rfl, fun w => by kernel_rfl, fun w => by kernel_rfl, fun w => by kernel_rfl, fun w => by kernel_rfl, tv⟩ fun a w4 hA H hG => ?_
 refine list_at 5 ?_; refine q_lit 5 9 69 5 #[(0, .tmp 4), (1, .tmp 5), (2, .tmp 6), (3, .tmp 7), (4, .tmp 8)] 92 [(0, .agg #[.int .i64 0, .int .i64 1, .int .i64 0]), (1, .agg #[.int .i64 1, .int .i64 2, .int .i64 1]), (2, .agg #[.int .i64 2, .int .i64 3, .int .i64 2]), (3, .agg #[.int .i64 3, .int .i64 0, .int .i64 3]), (4, .agg #[.int .i64 0, .int .i64 2, .int .i64 4])] [.int .i64 0, .int .i64 1, .int .i64 0, .int .i64 1, .int .i64 2, .int .i64 1, .int .i64 2, .int .i64 3, .int .i64 2, .int .i64 3, .int .i64 0, .int .i64 3, .int .i64 0, .int .i64 2, .int .i64 4] [] hA H fun b5 a w6 H hA hG hge_b5 => ?_
 clear hge_b5
 refine list_at 6 ?_; refine q_call 6 10 65 #[.tmp 9] #[69] [(.slice (some ⟨b5, 0, none⟩) 5 5)] (fun S v_ w' => ∃ sd, v_ = .tuple #[.agg #[.int .i64 0, .int .i64 2, sd], .bool true] ∧ Rd S w' sd ([0, 1] : List Int)) [] hA H (by exact ((first_any (.slice (some ⟨b5, 0, none⟩) 5 5) awL H.at ((H.lit 0 rfl (l := ([(0, (1, 0)), (1, (2, 1)), (2, (3, 2)), (3, (0, 3)), (0, (2, 4))] : List (Int × Int × Int))) (by exact (((((RowRd.single (α := Int × Int × Int) (a := (0, (1, 0))) (by exact ⟨[_], _, rfl, rfl, ⟨[_], _, rfl, rfl, rfl⟩⟩)).append (RowRd.single (α := Int × Int × Int) (a := (1, (2, 1))) (by exact ⟨[_], _, rfl, rfl, ⟨[_], _, rfl, rfl, rfl⟩⟩))).append (RowRd.single (α := Int × Int × Int) (a := (2, (3, 2))) (by exact ⟨[_], _, rfl, rfl, ⟨[_], _, rfl, rfl, rfl⟩⟩))).append (RowRd.single (α := Int × Int × Int) (a := (3, (0, 3))) (by exact ⟨[_], _, rfl, rfl, ⟨[_], _, rfl, rfl, rfl⟩⟩))).append (RowRd.single (α := Int × Int × Int) (a := (0, (2, 4))) (by exact ⟨[_], _, rfl, rfl, ⟨[_], _, rfl, rfl, rfl⟩⟩)))) (n := 5) rfl (by decide))) (by decide) awL_wf).mono fun e w' ⟨v, h1, h2, h3⟩ => ⟨v, h1, aw_giv h2, h3⟩)) fun v7 a w8 S hR9 H hA hG => ?_
 obtain ⟨v7s, rfl, hR9s⟩ := hR9
 replace H := H.ro hR9s
 replace H : Fr _ _ _ [.ro v7s ([0, 1] : List Int), .box b5 92 [.int .i64 0, .int .i64 1, .int .i64 0, .int .i64 1, .int .i64 2, .int .i64 1, .int .i64 2, .int .i64 3, .int .i64 2, .int .i64 3, .int .i64 0, .int .i64 3, .int .i64 0, .int .i64 2, .int .i64 4]] := H
 refine q_list 7 3 [] [(11, .agg #[.int .i64 0, .int .i64 2, v7s]), (12, .bool true)] (TT ∧ TT ∧ TT ∧ True) hA H ⟨tv, tv, tv, tv⟩ fun a w11 hA H hG => ?_
 refine list_at 10 ?_; refine q_alloc 10 1 81 [.int .i64 0, .int .i64 0, (.slice none 0 0)] [(11, .agg #[.int .i64 0, .int .i64 2, v7s]), (12, .bool true)] hA H fun b12 a w13 H hA hG hge_b12 => ?_
 clear hge_b12
 refine list_at 11 ?_; refine q_store 11 81 (.tmp 1) (.tmp 11) 0 b12 (0) 81 [.int .i64 0, .int .i64 0, (.slice none 0 0)] [.int .i64 0, .int .i64 2, v7s] [.int .i64 0, .int .i64 2, v7s] (.agg #[.int .i64 0, .int .i64 2, v7s]) [(1, pv b12), (12, .bool true)] hA H rfl rfl (Nat.le_of_ble_eq_true (by kernel_rfl)) rfl (fun v hv => by simp only [List.mem_cons, List.not_mem_nil, or_false] at hv; rcases hv with rfl | rfl | rfl; exact rfl; exact rfl; exact (rd_one (H.get 1 rfl))) fun a w14 H hA hG => ?_
 replace H : Fr _ _ _ [.box b12 81 [.int .i64 0, .int .i64 2, v7s], .ro v7s ([0, 1] : List Int), .box b5 92 [.int .i64 0, .int .i64 1, .int .i64 0, .int .i64 1, .int .i64 2, .int .i64 1, .int .i64 2, .int .i64 3, .int .i64 2, .int .i64 3, .int .i64 0, .int .i64 3, .int .i64 0, .int .i64 2, .int .i64 4]] := H
 refine q_list 12 1 [] [(1, pv b12), (2, .bool true)] (TT ∧ True) hA H ⟨tv, tv⟩ fun a w15 hA H hG => ?_
 refine list_end ?_
 refine hK3 _ _ ?_
 refine go_seq fun K16 hK16 => ?_
 refine region_list ?_
 refine q_list 0 12 [(16, iv 0), (21, iv 2)] [(1, pv b12), (24, .bool ((decide ((0 : Int) = 0)) && (decide ((2 : Int) = 2))))] (TT ∧ TT ∧ ((true) = true → 0 < Try.prog.cellsOf 3) ∧ ((true) = true → CellOk (On w15) b12 (0 + 0) (.int .i64 0)) ∧ ((true) = true → True) ∧ TT ∧ TT ∧ ((decide ((0 : Int) = 0)) = true → 0 < Try.prog.cellsOf 3) ∧ ((decide ((0 : Int) = 0)) = true → CellOk (On w15) b12 (0 + 1) (.int .i64 2)) ∧ ((decide ((0 : Int) = 0)) = true → True) ∧ TT ∧ TT ∧ True) hA H ⟨tv, tv, fun _ => by decide +kernel, fun _ => by exact box_cell H 0 rfl 0, fun _ => tv, tv, tv, fun _ => by decide +kernel, fun _ => by exact box_cell H 0 rfl 1, fun _ => tv, tv, tv, tv⟩ fun a w17 hA H hG => ?_
 refine q_listK [(24, true)] 12 2 [(26, v7s)] [(24, .bool ((decide ((0 : Int) = 0)) && (decide ((2 : Int) = 2)))), (26, v7s)] ((((((decide ((0 : Int) = 0)) && (decide ((2 : Int) = 2))) = true) ∧ True) ∧ (0 < Try.prog.cellsOf 27)) ∧ (((((decide ((0 : Int) = 0)) && (decide ((2 : Int) = 2))) = true) ∧ True) ∧ (CellOk (On w17) b12 (0 + 2) (v7s))) ∧ True) hA H ⟨⟨⟨(by simp []), tv⟩, by decide +kernel⟩, ⟨⟨(by simp []), tv⟩, by exact box_cell H 0 rfl 2⟩, tv⟩ fun a w18 hA H hG => ?_
 refine list_at 14 ?_; refine op_on [(24, true)] ((((decide ((0 : Int) = 0)) && (decide ((2 : Int) = 2))) = true) ∧ True) hA ⟨(by simp []), tv⟩ ?_; refine q_lit 14 27 27 2 #[(0, .const (.int .i64 0)), (1, .const (.int .i64 1))] 3 [(0, iv 0), (1, iv 1)] [.int .i64 0, .int .i64 1] [(24, .bool ((decide ((0 : Int) = 0)) && (decide ((2 : Int) = 2)))), (26, v7s)] hA H fun b19 a w20 H hA hG hge_b19 => ?_
 clear hge_b19
 refine q_listK [(24, true)] 15 3 [(28, .bool (decide (([0, 1] : List Int) = ([0, 1] : List Int))))] [(0, .bool (decide (([0, 1] : List Int) = ([0, 1] : List Int))))] ((((((decide ((0 : Int) = 0)) && (decide ((2 : Int) = 2))) = true) ∧ True) ∧ (Callable Try.prog 36 ∧ CallOk Try.prog (On w20) 36 [v7s, (.slice (some ⟨b19, 0, none⟩) 2 2)].toArray (.bool (decide (([0, 1] : List Int) = ([0, 1] : List Int)))))) ∧ (TT ∧ (((decide ((0 : Int) = 0)) && (decide ((2 : Int) = 2))) = true)) ∧ (TT ∧ (True)) ∧ True) hA H ⟨⟨⟨(by simp []), tv⟩, ⟨callable_of, callOk_of fun w hw => by exact requal_any v7s (.slice (some ⟨b19, 0, none⟩) 2 2) ([0, 1] : List Int) ([0, 1] : List Int) w (((H.on hw).get 2 rfl)) (((H.on hw).lit 0 rfl (l := ([0, 1] : List Int)) (by exact ((RowRd.single (α := Int) (a := 0) (by exact rfl)).append (RowRd.single (α := Int) (a := 1) (by exact rfl)))) (n := 2) rfl (by decide)))⟩⟩, ⟨tv, (by simp [])⟩, ⟨tv, tv⟩, tv⟩ fun a w21 hA H hG => ?_
 refine list_end ?_
 refine hK16 _ _ ?_
 refine go_ret_ ?_
 refine ret_one 0 (.bool (decide (([0, 1] : List Int) = ([0, 1] : List Int)))) hA ?_
 exact ans_b' (by decide +kernel) H.below
theorem verts_asc (l : List Lk) : Asc (vertsL l) := (compact_sort (endsK l)).1
theorem mem_verts {l : List Lk} {x : Int} : x ∈ vertsL l ↔ x ∈ endsK l := (compact_sort (endsK l)).2 x
theorem verts_rises {l : List Lk} (h : okWh l) : risesP (vertsL l) 1024 := by
 refine rises_iff.2 ⟨verts_asc l, fun x hx => ?_⟩
 obtain ⟨y, hy, hxy⟩ := List.mem_flatMap.1 (mem_verts.1 hx)
 obtain ⟨j, hj, rfl⟩ := List.getElem_of_mem hy
 have h9 := h j hj
 unfold okLk at h9
 rw [List.getD_eq_getElem?_getD, List.getElem?_eq_getElem hj, Option.getD_some] at h9
 simp only [List.mem_cons, List.not_mem_nil, or_false] at hxy
 rcases hxy with e | e <;> omega
theorem hasB_verts {l : List Lk} (h : rightK l = true) (x : Int) : hasB (vertsL l) x = decide (x ∈ vertsL l) := hasB_mem (verts_rises (rk_wh h).1)
theorem pcl_yes {l : List Lk} {x y : Int} (h : ((rightK l = true ∧ ¬ x = y) ∧ x ∈ vertsL l) ∧ y ∈ vertsL l) : pclassesE l x y = classesL l x y := by
 refine pclassesE_ok ?_
 rw [hasB_verts h.1.1.1, hasB_verts h.1.1.1, decide_eq_true_eq, decide_eq_true_eq]
 exact ⟨⟨⟨h.1.1.2, h.1.2⟩, h.2⟩, h.1.1.1⟩
theorem wfL_of {l : List Lk} (h : ∀ b ∈ l, (-9223372036854775808 ≤ b.1 ∧ b.1 ≤ 9223372036854775807) ∧ (-9223372036854775808 ≤ b.2.1 ∧ b.2.1 ≤ 9223372036854775807) ∧ (-9223372036854775808 ≤ b.2.2 ∧ b.2.2 ≤ 9223372036854775807)) : WfL l := by
 intro i h0 h1
 exact h _ (getD_mem (l := l) (i := i.toNat) (d := (0, (0, 0))) (by omega))
theorem len64 {v : Value} {l : List Lk} {w : World} {S : Stab} (h : Rd S w v l) : l.length ≤ 9223372036854775807 := by have := rd_len h; omega
end Go.Proofs.Ytahonnlgkmimlaa
namespace Go.Proofs.Ytahonnlgkmimlaa
open Go.RowKit
section
variable {l : List Lk} {u v : Int} {c d : List Int}
theorem cls_form (h : c ∈ classesL l u v) : ∃ r, 0 ≤ r ∧ r < (l.length : Int) ∧ clR u v l r = r ∧ c = (upto (l.length : Int)).filter fun j => decide (clR u v l j = r) := by
 unfold classesL groupsR rootsTo at h
 obtain ⟨r, hr, rfl⟩ := List.mem_map.1 h
 obtain ⟨h1, h2⟩ := List.mem_filter.1 hr
 have h1 := mem_upto.1 h1
 exact ⟨r, h1.1, h1.2, of_decide_eq_true h2, rfl⟩
theorem cls_mem (h : c ∈ classesL l u v) : ∃ r, clR u v l r = r ∧ r ∈ c ∧ ∀ j, j ∈ c ↔ (0 ≤ j ∧ j < (l.length : Int)) ∧ clR u v l j = r := by
 obtain ⟨r, h0, h1, h2, rfl⟩ := cls_form h
 have key : ∀ j, j ∈ (upto (l.length : Int)).filter (fun j => decide (clR u v l j = r)) ↔ (0 ≤ j ∧ j < (l.length : Int)) ∧ clR u v l j = r := fun j => by rw [List.mem_filter, mem_upto, decide_eq_true_eq]
 exact ⟨r, h2, (key r).2 ⟨⟨h0, h1⟩, h2⟩, key⟩
theorem cls_asc (h : c ∈ classesL l u v) : risesP c (l.length : Int) := by
 obtain ⟨r, h0, h1, h2, rfl⟩ := cls_form h
 exact rises_iff.2 ⟨(upto_asc _).sublist List.filter_sublist, fun x hx => mem_upto.1 (List.mem_filter.1 hx).1⟩
theorem cls_cl (hc : c ∈ classesL l u v) {i j : Int} (hi : i ∈ c) (h0 : 0 ≤ j) (h1 : j < (l.length : Int)) (h : Cn l u v i j) : j ∈ c := by
 obtain ⟨r, _, _, hm⟩ := cls_mem hc
 exact (hm j).2 ⟨⟨h0, h1⟩, (cn_clR h).symm.trans ((hm i).1 hi).2⟩
end
theorem hasB_cls {l : List Lk} {u v i : Int} {c : List Int} (h : c ∈ classesL l u v) : hasB c i = decide (i ∈ c) := hasB_mem (cls_asc h)
section
variable {l : List Lk} {x y id : Int} {sd : List Int}
theorem takes_any (h : ((rightK l = true ∧ ¬ x = y) ∧ x ∈ vertsL l) ∧ y ∈ vertsL l) (hc : sd ∈ classesL l x y) : ((pclassesE l x y).any fun c => decide (c = sd)) = true := by
 rw [pcl_yes h, List.any_eq_true]; exact ⟨sd, hc, decide_eq_true rfl⟩
end
theorem offL_len (l : List Lk) (sd : List Int) : (offL l sd (l.length : Int)).length ≤ l.length ∧ (restL l sd (l.length : Int)).length ≤ l.length := by
 have h := upto_len (l.length : Int)
 have h1 : ((upto (l.length : Int)).filter fun j => hasB sd j).length ≤ _ := List.length_filter_le _ _
 have h2 : ((upto (l.length : Int)).filter fun j => !hasB sd j).length ≤ _ := List.length_filter_le _ _
 unfold offL restL
 rw [List.length_map, List.length_map]
 omega
theorem cutA_len (l : List Lk) (x y : Int) (sd : List Int) (id : Int) : (cutA l x y sd id).length ≤ l.length + 1 := by
 unfold cutA; split
 · rw [List.length_append]; have := (offL_len l sd).1; simp only [List.length_cons, List.length_nil]; omega
 simp
theorem cutB_len (l : List Lk) (x y : Int) (sd : List Int) (id : Int) : (cutB l x y sd id).length ≤ l.length + 1 := by
 unfold cutB; split
 · rw [List.length_append]; have := (offL_len l sd).2; simp only [List.length_cons, List.length_nil]; omega
 simp
end Go.Proofs.Ytahonnlgkmimlaa
namespace Go.Proofs.Ytahonnlgkmimlaa
open Go.RowKit
open Go.Proofs.Ytahonnlgkmimlaa.Deep
abbrev grK (l : List Lk) : Gr := ⟨upto (l.length : Int), lkA l, lkB l⟩
theorem eA_K (l : List Lk) : eA (eK l) = lkA l := by
 funext f; unfold eA lkA eK
 rw [List.getD_eq_getElem?_getD, List.getElem?_map, List.getD_eq_getElem?_getD]
 cases l[f.toNat]? <;> rfl
theorem eB_K (l : List Lk) : eB (eK l) = lkB l := by
 funext f; unfold eB lkB eK
 rw [List.getD_eq_getElem?_getD, List.getElem?_map, List.getD_eq_getElem?_getD]
 cases l[f.toNat]? <;> rfl
theorem grK_eq (l : List Lk) : grE (eK l) (upto (l.length : Int)) = grK l := by unfold grK grE; rw [eA_K, eB_K]
theorem noLp {l : List Lk} (h : okWh l) {e : Int} (he : e ∈ upto (l.length : Int)) : ¬ (grK l).lp e := by
 have he := mem_upto.1 he
 have := (h e.toNat (by omega)).2.2.2.1
 exact this
theorem right_tog {l : List Lk} (h : rightK l = true) {e f : Int} (he : e ∈ upto (l.length : Int)) (hf : f ∈ upto (l.length : Int)) (z : Int) : Tog (grK l) z e f := by
 obtain ⟨hw, hre⟩ := rk_wh h
 have hp := part_K hre
 rw [rk_ok hw hre, ← solid_ref hp] at h
 simp only [Bool.and_eq_true, decide_eq_true_eq] at h
 obtain ⟨h1, h2, h3⟩ := h
 have hb : (blocksL (nK l) (eK l) (vertsL l) (upto (l.length : Int))).getD (0 : Int).toNat ([], []) ∈ blocksL (nK l) (eK l) (vertsL l) (upto (l.length : Int)) := getD_mem (by show 0 < _; omega)
 obtain ⟨e0, he0, _, hb2⟩ := block_at hp hb
 rw [hb2] at h3
 have h3 : classL (eK l) (vertsL l) (upto (l.length : Int)) e0 = upto (l.length : Int) := h3
 obtain ⟨_, hc⟩ := class_all hp he0
 rw [h3, grK_eq] at hc
 rcases hc with ⟨_, hl⟩ | ⟨_, hc⟩
 · exact (noLp hw he0 hl).elim
 exact hc e he f hf z
theorem upto_zero {n : Int} (h : 0 < n) : (upto n).filter (fun e => decide ((0 : Int) = e)) = [0] := by
 refine asc_ext ((upto_asc n).sublist List.filter_sublist) (List.pairwise_singleton _ _) fun x => ?_
 rw [List.mem_filter, mem_upto, decide_eq_true_eq, List.mem_singleton]
 omega
theorem upto_head {n : Int} (h : 0 < n) : (upto n).getD 0 0 = 0 := by
 have := upto_getD (n := n) (j := 0) (by rw [upto_len]; omega)
 simpa using this
theorem tog_right {l : List Lk} (hw : okWh l) (hre : rightE (nK l) (eK l) = 0) (hpos : 0 < l.length) (ht : ∀ e ∈ upto (l.length : Int), ∀ f ∈ upto (l.length : Int), e ≠ f → ∀ z, Tog (grK l) z e f) : rightK l = true := by
 have hp := part_K hre
 have hc : ∀ e ∈ upto (l.length : Int), classL (eK l) (vertsL l) (upto (l.length : Int)) e = upto (l.length : Int) := fun e he => by
   refine List.filter_eq_self.2 fun f hf => ?_
   by_cases q : e = f
   · subst q; exact togB_self
   exact (class_mem.1 (class_tog hp he hf (by rw [grK_eq]; exact noLp hw he) (by rw [grK_eq]; exact noLp hw hf) (fun z => by rw [grK_eq]; exact ht e he f hf q z))).2
 have hbl : blocksL (nK l) (eK l) (vertsL l) (upto (l.length : Int)) = [(touchL (eK l) (upto (l.length : Int)) (nK l), upto (l.length : Int))] := by
   unfold blocksL
   have e1 : ((upto (l.length : Int)).filter fun e => decide ((classL (eK l) (vertsL l) (upto (l.length : Int)) e).getD 0 0 = e)) = [0] := by
     rw [← upto_zero (n := (l.length : Int)) (by omega)]
     exact List.filter_congr fun e he => by rw [hc e he, upto_head (by omega)]
   rw [e1, List.map_cons, List.map_nil, hc 0 (mem_upto.2 (by omega))]
 have htv : touchL (eK l) (upto (l.length : Int)) (nK l) = vertsL l := by
   rw [← span_touch (rightE_0 hre).2.2.2 (upto_rises (by rw [eK_len]; omega)), ends_eK]; rfl
 rw [rk_ok hw hre, ← solid_ref hp, hbl, htv]
 simp
theorem inc_verts {l : List Lk} {e x : Int} (he : e ∈ upto (l.length : Int)) (h : (grK l).inc e x) : x ∈ vertsL l := by
 have he := mem_upto.1 he
 refine mem_verts.2 ?_
 rw [← ends_eK]
 refine mem_endsL.2 ⟨e, mem_upto.2 he, ?_⟩
 rcases h with h | h
 · left; have := congrFun (eA_K l) e; exact this.trans h
 right; have := congrFun (eB_K l) e; exact this.trans h
theorem verts_inc {l : List Lk} {x : Int} (h : x ∈ vertsL l) : ∃ e ∈ upto (l.length : Int), (grK l).inc e x := by
 have h := mem_verts.1 h
 rw [← ends_eK] at h
 obtain ⟨e, he, ht⟩ := mem_endsL.1 h
 refine ⟨e, he, ?_⟩
 rcases ht with ht | ht
 · left; exact (congrFun (eA_K l) e).symm.trans ht
 right; exact (congrFun (eB_K l) e).symm.trans ht
theorem conn {l : List Lk} (h : rightK l = true) {z p q : Int} (hp : p ∈ vertsL l) (hq : q ∈ vertsL l) (hpz : p ≠ z) (hqz : q ≠ z) : (grK l).Rch (· ≠ z) p q := by
 obtain ⟨e, he, hep⟩ := verts_inc hp
 obtain ⟨f, hf, hfq⟩ := verts_inc hq
 obtain ⟨a, b, h1, h2, h3, h4, h5⟩ := right_tog h he hf z
 exact ((ends_rch he hep h1 hpz h2).trans h5).trans (ends_rch hf h3 hfq h4 hqz)
end Go.Proofs.Ytahonnlgkmimlaa
namespace Go.Proofs.Ytahonnlgkmimlaa
open Go.RowKit
open Go.Proofs.Ytahonnlgkmimlaa.Deep
end Go.Proofs.Ytahonnlgkmimlaa
namespace Go.Proofs.Ytahonnlgkmimlaa
open Go.RowKit
open Go.Proofs.Ytahonnlgkmimlaa.Deep
theorem len_filter {α : Type} (p : α → Bool) : ∀ L : List α, L.length = (L.filter p).length + (L.filter fun x => !p x).length
 | [] => rfl
 | x :: L => by
   have ih := len_filter p L
   rw [List.filter_cons, List.filter_cons, List.length_cons]
   by_cases q : p x = true
   · rw [if_pos q, if_neg (by rw [q]; decide), List.length_cons]; omega
   rw [if_neg q, if_pos (by simpa using q), List.length_cons]; omega
section
variable {l : List Lk} {u v : Int} {c : List Int}
theorem mem_butV {V : List Int} {x : Int} : x ∈ butV u V ↔ x ∈ V ∧ x ≠ u := by unfold butV; rw [List.mem_filter]; simp
end
end Go.Proofs.Ytahonnlgkmimlaa
namespace Go.Proofs.Ytahonnlgkmimlaa
open Go.RowKit
open Go.Proofs.Ytahonnlgkmimlaa.Deep
theorem whole_right {l : List Lk} (h : rightK l = true) : wholeR l = (((nK l, eK l), (vertsL l, upto (l.length : Int))), true) := wholeR_K (rk_wh h).1 (rk_wh h).2
theorem besK_right {l : List Lk} (h : rightK l = true) (u : Int) : besK l u = besideE (nK l) (eK l) (vertsL l) (upto (l.length : Int)) u := by unfold besK; rw [whole_right h]
end Go.Proofs.Ytahonnlgkmimlaa
namespace Go.Proofs.Ytahonnlgkmimlaa
open Go.RowKit
end Go.Proofs.Ytahonnlgkmimlaa
namespace Go.Proofs.Ytahonnlgkmimlaa
open Go.RowKit
open Go.Proofs.Ytahonnlgkmimlaa.Deep
def subL (l : List Lk) (D : List Int) : List Lk := D.map fun j => l.getD j.toNat (0, (0, 0))
theorem subL_getD {l : List Lk} {D : List Int} {x : Lk} {i : Nat} (h : i < D.length) : (subL l D ++ [x]).getD i (0, (0, 0)) = l.getD (D.getD i 0).toNat (0, (0, 0)) := by
 unfold subL
 rw [List.getD_eq_getElem?_getD, List.getElem?_append_left (by rw [List.length_map]; exact h), List.getElem?_map, List.getElem?_eq_getElem h, List.getD_eq_getElem?_getD (l := D), List.getElem?_eq_getElem h]; rfl
theorem subL_last {l : List Lk} {D : List Int} {x : Lk} : (subL l D ++ [x]).getD D.length (0, (0, 0)) = x := by
 unfold subL
 rw [List.getD_eq_getElem?_getD, List.getElem?_append_right (by rw [List.length_map]; exact Nat.le_refl _), List.length_map, Nat.sub_self]; rfl
theorem subL_len (l : List Lk) (D : List Int) (x : Lk) : (subL l D ++ [x]).length = D.length + 1 := by unfold subL; rw [List.length_append, List.length_map]; rfl
def nkF (n : Int) (x : Lk) : Int := max (max n (x.1 + 1)) (x.2.1 + 1)
theorem fold_ge : ∀ (l : List Lk) (n : Int), n ≤ l.foldl nkF n ∧ ∀ x ∈ l, x.1 + 1 ≤ l.foldl nkF n ∧ x.2.1 + 1 ≤ l.foldl nkF n
 | [], n => ⟨Int.le_refl _, fun x hx => by cases hx⟩
 | y :: l, n => by
   obtain ⟨h1, h2⟩ := fold_ge l (nkF n y)
   have e : (y :: l).foldl nkF n = l.foldl nkF (nkF n y) := rfl
   have hy : n ≤ nkF n y ∧ y.1 + 1 ≤ nkF n y ∧ y.2.1 + 1 ≤ nkF n y := by unfold nkF; omega
   rw [e]
   refine ⟨by omega, fun x hx => ?_⟩
   rcases List.mem_cons.1 hx with q | q
   · subst q; omega
   exact h2 x q
theorem fold_le {N : Int} : ∀ (l : List Lk) (n : Int), n ≤ N → (∀ x ∈ l, x.1 + 1 ≤ N ∧ x.2.1 + 1 ≤ N) → l.foldl nkF n ≤ N
 | [], n, h, _ => h
 | y :: l, n, h, hl => by
   have := hl y (by simp)
   exact fold_le l (nkF n y) (by unfold nkF; omega) fun x hx => hl x (List.mem_cons_of_mem _ hx)
section
variable {l : List Lk} {u v id : Int} {D : List Int}
theorem sub_at (hD : ∀ d ∈ D, d ∈ upto (l.length : Int)) {e : Int} (he : e ∈ upto ((subL l D ++ [(u, (v, id))]).length : Int)) :
   (∃ d ∈ D, lkA (subL l D ++ [(u, (v, id))]) e = lkA l d ∧ lkB (subL l D ++ [(u, (v, id))]) e = lkB l d) ∨ (lkA (subL l D ++ [(u, (v, id))]) e = u ∧ lkB (subL l D ++ [(u, (v, id))]) e = v) := by
 have he := mem_upto.1 he
 rw [subL_len] at he
 by_cases q : e.toNat < D.length
 · left
   refine ⟨D.getD e.toNat 0, getD_mem q, ?_, ?_⟩
   · unfold lkA; rw [subL_getD q]
   unfold lkB; rw [subL_getD q]
 right
 have : e.toNat = D.length := by omega
 unfold lkA lkB
 rw [this, subL_last]; exact ⟨rfl, rfl⟩
theorem sub_of {d : Int} (hd : d ∈ D) : ∃ e ∈ upto ((subL l D ++ [(u, (v, id))]).length : Int), lkA (subL l D ++ [(u, (v, id))]) e = lkA l d ∧ lkB (subL l D ++ [(u, (v, id))]) e = lkB l d := by
 obtain ⟨j, hj, rfl⟩ := List.getElem_of_mem hd
 refine ⟨(j : Int), mem_upto.2 (by rw [subL_len]; omega), ?_⟩
 unfold lkA lkB
 rw [Int.toNat_natCast, subL_getD hj, List.getD_eq_getElem?_getD (l := D), List.getElem?_eq_getElem hj]; exact ⟨rfl, rfl⟩
theorem sub_new : ∃ e ∈ upto ((subL l D ++ [(u, (v, id))]).length : Int), lkA (subL l D ++ [(u, (v, id))]) e = u ∧ lkB (subL l D ++ [(u, (v, id))]) e = v := by
 refine ⟨(D.length : Int), mem_upto.2 (by rw [subL_len]; omega), ?_⟩
 unfold lkA lkB
 rw [Int.toNat_natCast, subL_last]; exact ⟨rfl, rfl⟩
def VS (l : List Lk) (u v : Int) (D : List Int) (y : Int) : Prop := (y = u ∨ y = v) ∨ ∃ d ∈ D, (grK l).inc d y
theorem way_in (hcl : ∀ d ∈ D, ∀ g ∈ upto (l.length : Int), touchK (lkAt l d) (lkAt l g) u v → g ∈ D) (hD : ∀ d ∈ D, d ∈ upto (l.length : Int)) {z a y : Int} (ha : VS l u v D a) (hr : (grK l).Rch (· ≠ z) a y) :
   (VS l u v D y → (grK (subL l D ++ [(u, (v, id))])).Rch (· ≠ z) a y) ∧ (¬ VS l u v D y → ∃ t, (t = u ∨ t = v) ∧ (grK (subL l D ++ [(u, (v, id))])).Rch (· ≠ z) a t) := by
 have hop : ∀ {t s : Int}, (t = u ∨ t = v) → (s = u ∨ s = v) → s ≠ z → (grK (subL l D ++ [(u, (v, id))])).Rch (· ≠ z) a t → (grK (subL l D ++ [(u, (v, id))])).Rch (· ≠ z) a s := by
   intro t s ht hs hsz h
   by_cases q : t = s
   · subst q; exact h
   obtain ⟨e, he, e1, e2⟩ := sub_new (l := l) (D := D) (u := u) (v := v) (id := id)
   refine .step h ⟨e, he, ?_⟩ hsz
   rcases ht with ht | ht <;> rcases hs with hs | hs
   · exact (q (ht.trans hs.symm)).elim
   · exact .inl ⟨e1.trans ht.symm, e2.trans hs.symm⟩
   · exact .inr ⟨e1.trans hs.symm, e2.trans ht.symm⟩
   exact (q (ht.trans hs.symm)).elim
 induction hr with
 | refl hp => exact ⟨fun _ => .refl hp, fun q => (q ha).elim⟩
 | @step y w h1 hadj hz ih =>
   obtain ⟨g, hg, hj⟩ := hadj
   by_cases hgD : g ∈ D
   · refine ⟨fun _ => ?_, fun q => (q (.inr ⟨g, hgD, hj.right⟩)).elim⟩
     obtain ⟨e, he, e1, e2⟩ := sub_of (l := l) (u := u) (v := v) (id := id) hgD
     refine .step (ih.1 (.inr ⟨g, hgD, hj.left⟩)) ⟨e, he, ?_⟩ hz
     rcases hj with ⟨j1, j2⟩ | ⟨j1, j2⟩
     · exact .inl ⟨e1.trans j1, e2.trans j2⟩
     exact .inr ⟨e1.trans j1, e2.trans j2⟩
   have hb : ∀ {x : Int}, (grK l).inc g x → VS l u v D x → x = u ∨ x = v := by
     intro x hx hv
     rcases hv with hv | ⟨d, hd, hdx⟩
     · exact hv
     refine Classical.byContradiction fun q => hgD (hcl d hd g hg (touch_iff.2 ⟨x, fun e => q (.inl e), fun e => q (.inr e), hdx, hx⟩))
   have ht : ∃ t, (t = u ∨ t = v) ∧ (grK (subL l D ++ [(u, (v, id))])).Rch (· ≠ z) a t := by
     by_cases q : VS l u v D y
     · exact ⟨y, hb hj.left q, ih.1 q⟩
     exact ih.2 q
   refine ⟨fun q => ?_, fun _ => ht⟩
   obtain ⟨t, t1, t2⟩ := ht
   exact hop t1 (hb hj.right q) hz t2
theorem sub_right (h : rightK l = true) (hu : u ∈ vertsL l) (hv : v ∈ vertsL l) (hne : u ≠ v) (hD : ∀ d ∈ D, d ∈ upto (l.length : Int)) (hn : D.Nodup) (hlen : D.length + 1 ≤ l.length)
   (hcl : ∀ d ∈ D, ∀ g ∈ upto (l.length : Int), touchK (lkAt l d) (lkAt l g) u v → g ∈ D) (hid : ∀ j : Nat, j < l.length → (l.getD j (0, (0, 0))).2.2 ≠ id) : rightK (subL l D ++ [(u, (v, id))]) = true := by
 obtain ⟨hw, hre⟩ := rk_wh h
 have hvb : ∀ x ∈ vertsL l, 0 ≤ x ∧ x < 1024 := (rises_iff.1 (verts_rises hw)).2
 have hub := hvb u hu; have hvb := hvb v hv
 have hDn : ∀ i, i < D.length → (D.getD i 0).toNat < l.length := fun i hi => by have := mem_upto.1 (hD _ (getD_mem (d := 0) hi)); omega
 obtain ⟨r1, r2, r3, r4⟩ := rightE_0 hre
 rw [eK_len] at r3
 -- all links of the part have their ends below the same number
 have hx : ∀ x ∈ subL l D ++ [(u, (v, id))], (0 ≤ x.1 ∧ x.1 + 1 ≤ nK l) ∧ 0 ≤ x.2.1 ∧ x.2.1 + 1 ≤ nK l := by
   have key : ∀ j, j < l.length → (0 ≤ (l.getD j (0, (0, 0))).1 ∧ (l.getD j (0, (0, 0))).1 + 1 ≤ nK l) ∧ 0 ≤ (l.getD j (0, (0, 0))).2.1 ∧ (l.getD j (0, (0, 0))).2.1 + 1 ≤ nK l := fun j hj => by
     have := r4 j (by rw [eK_len]; exact hj)
     rw [eK_getD hj] at this
     unfold okE at this
     omega
   have kv : ∀ x ∈ vertsL l, 0 ≤ x ∧ x + 1 ≤ nK l := fun x hx => by
     obtain ⟨e, he, hi⟩ := verts_inc hx
     have he := mem_upto.1 he
     have := key e.toNat (by omega)
     rcases hi with hi | hi
     · have hi : (l.getD e.toNat (0, (0, 0))).1 = x := hi; omega
     have hi : (l.getD e.toNat (0, (0, 0))).2.1 = x := hi; omega
   intro x hx
   rcases List.mem_append.1 hx with hx | hx
   · obtain ⟨d, hd, rfl⟩ := List.mem_map.1 hx
     have := mem_upto.1 (hD d hd)
     exact key d.toNat (by omega)
   rw [List.mem_singleton] at hx; subst hx
   exact ⟨kv u hu, kv v hv⟩
 have hnk : nK (subL l D ++ [(u, (v, id))]) ≤ nK l := fold_le _ 0 r1 fun x q => ⟨(hx x q).1.2, (hx x q).2.2⟩
 obtain ⟨g0, g1⟩ := fold_ge (subL l D ++ [(u, (v, id))]) 0
 have g0 : 0 ≤ nK (subL l D ++ [(u, (v, id))]) := g0
 have hre2 : rightE (nK (subL l D ++ [(u, (v, id))])) (eK (subL l D ++ [(u, (v, id))])) = 0 := by
   unfold rightE
   rw [if_neg (by omega), if_neg (by rw [eK_len, subL_len]; omega), if_pos]
   intro j hj
   rw [eK_len] at hj
   have hm : (subL l D ++ [(u, (v, id))]).getD j (0, (0, 0)) ∈ subL l D ++ [(u, (v, id))] := getD_mem hj
   have a := hx _ hm; have b := g1 _ hm
   rw [eK_getD hj]
   refine ⟨a.1.1, ?_, a.2.1, ?_⟩
   · have := b.1; show _ < nK _; unfold nK; change _ < List.foldl nkF 0 _; omega
   have := b.2; show _ < nK _; unfold nK; change _ < List.foldl nkF 0 _; omega
 have hw2 : okWh (subL l D ++ [(u, (v, id))]) := by
   intro i hi
   rw [subL_len] at hi
   unfold okLk
   by_cases q : i < D.length
   · rw [subL_getD q]
     have hi2 := hDn i q
     obtain ⟨_, k2⟩ := hw _ hi2
     refine ⟨fun j hj => ?_, k2⟩
     rw [subL_getD (by omega)]
     have hj2 := hDn j (by omega)
     have hne2 : (D.getD j 0).toNat ≠ (D.getD i 0).toNat := fun e => by
       have a := mem_upto.1 (hD _ (getD_mem (d := 0) q)); have b := mem_upto.1 (hD _ (getD_mem (l := D) (i := j) (d := 0) (by omega)))
       have e2 : D.getD j 0 = D.getD i 0 := by omega
       rw [List.getD_eq_getElem?_getD, List.getD_eq_getElem?_getD, List.getElem?_eq_getElem q, List.getElem?_eq_getElem (show j < D.length by omega)] at e2
       have := (List.getElem_inj hn).1 (show D[j] = D[i] from e2)
       omega
     rcases Nat.lt_or_gt_of_ne hne2 with q2 | q2
     · exact (hw _ hi2).1 _ q2
     exact fun e => (hw _ hj2).1 _ q2 e.symm
   have e : i = D.length := by omega
   subst e
   rw [subL_last]
   refine ⟨fun j hj => ?_, hub.1, hvb.1, hne, by show max u v < 1024; omega⟩
   rw [subL_getD hj]
   exact hid _ (hDn j hj)
 -- ends of a link of the part
 have hve : ∀ {e x : Int}, e ∈ upto ((subL l D ++ [(u, (v, id))]).length : Int) → (grK (subL l D ++ [(u, (v, id))])).inc e x → VS l u v D x ∧ x ∈ vertsL l := by
   intro e x he hi
   rcases sub_at (u := u) (v := v) (id := id) hD he with ⟨d, hd, e1, e2⟩ | ⟨e1, e2⟩
   · have : (grK l).inc d x := hi.imp (fun q => e1.symm.trans q) (fun q => e2.symm.trans q)
     exact ⟨.inr ⟨d, hd, this⟩, inc_verts (hD d hd) this⟩
   rcases hi with q | q
   · have : x = u := q.symm.trans e1
     subst this; exact ⟨.inl (.inl rfl), hu⟩
   have : x = v := q.symm.trans e2
   subst this; exact ⟨.inl (.inr rfl), hv⟩
 have far : ∀ {e z : Int}, e ∈ upto ((subL l D ++ [(u, (v, id))]).length : Int) → ∃ x, (grK (subL l D ++ [(u, (v, id))])).inc e x ∧ x ≠ z := by
   intro e z he
   have hl := noLp hw2 he
   by_cases q : lkA (subL l D ++ [(u, (v, id))]) e = z
   · exact ⟨_, .inr rfl, fun q2 => hl (q.trans q2.symm)⟩
   exact ⟨_, .inl rfl, q⟩
 refine tog_right hw2 hre2 (by rw [subL_len]; omega) fun e he f hf _ z => ?_
 obtain ⟨a, a1, a2⟩ := far (z := z) he
 obtain ⟨b, b1, b2⟩ := far (z := z) hf
 obtain ⟨a3, a4⟩ := hve he a1
 obtain ⟨b3, b4⟩ := hve hf b1
 exact ⟨a, b, a1, a2, b1, b2, (way_in (id := id) hcl hD a3 (conn h a4 b4 a2 b2)).1 b3⟩
end
theorem sum_off {l : List Lk} {u v : Int} {c : List Int} (hc : c ∈ classesL l u v) : (upto (l.length : Int)).filter (fun j => hasB c j) = c ∧ ((upto (l.length : Int)).filter fun j => !hasB c j).length + c.length = l.length := by
 have hca := rises_iff.1 (cls_asc hc)
 have e1 : (upto (l.length : Int)).filter (fun x => hasB c x) = c := asc_ext ((upto_asc _).sublist List.filter_sublist) hca.1 fun x => by
   rw [List.mem_filter, hasB_cls hc, decide_eq_true_eq]; exact ⟨fun q => q.2, fun q => ⟨mem_upto.2 (hca.2 x q), q⟩⟩
 have hlen := len_filter (fun x => hasB c x) (upto (l.length : Int))
 rw [e1, upto_len] at hlen
 exact ⟨e1, by omega⟩
theorem cls_closed {l : List Lk} {u v : Int} {c : List Int} (hc : c ∈ classesL l u v) : (∀ d ∈ c, ∀ g ∈ upto (l.length : Int), touchK (lkAt l d) (lkAt l g) u v → g ∈ c) ∧
   ∀ d ∈ (upto (l.length : Int)).filter (fun j => !hasB c j), ∀ g ∈ upto (l.length : Int), touchK (lkAt l d) (lkAt l g) u v → g ∈ (upto (l.length : Int)).filter (fun j => !hasB c j) := by
 have hca := rises_iff.1 (cls_asc hc)
 have hcl : ∀ d ∈ c, ∀ g ∈ upto (l.length : Int), touchK (lkAt l d) (lkAt l g) u v → g ∈ c := fun d hd g hg ht => by
   have h1 := hca.2 d hd; have h2 := mem_upto.1 hg
   exact cls_cl hc hd h2.1 h2.2 (.link h1.1 h1.2 h2.1 h2.2 ht)
 refine ⟨hcl, fun d hd g hg ht => List.mem_filter.2 ⟨hg, ?_⟩⟩
 obtain ⟨d1, d2⟩ := List.mem_filter.1 hd
 rw [hasB_cls hc, Bool.not_eq_true', decide_eq_false_iff_not] at d2 ⊢
 exact fun q => d2 (hcl g q d d1 (touch_symm ht))
theorem first_mem {l : List Lk} {x : Int × Int × List Int} (h : firstK l = some x) : rightK l = true ∧ x.1 ∈ vertsL l ∧ x.2.1 ∈ vertsL l ∧ x.1 ≠ x.2.1 ∧ x.2.2 ∈ classesL l x.1 x.2.1 ∧ willB l (x.2.2.length : Int) = true := by
 unfold firstK at h
 split at h
 · rename_i hr
   refine ⟨hr.1, ?_⟩
   have hm : x ∈ candU l (wholeR l).1.2.1 := List.mem_of_mem_head? (by rw [h]; rfl)
   rw [whole_right hr.1] at hm
   obtain ⟨u, hu, hm⟩ := List.mem_flatMap.1 hm
   obtain ⟨v, hv, hm⟩ := List.mem_flatMap.1 hm
   obtain ⟨c, hc, rfl⟩ := List.mem_map.1 hm
   obtain ⟨c1, c2⟩ := List.mem_filter.1 hc
   have hb := hv
   rw [besK_right hr.1] at hb
   have hb := mem_butV.1 (List.mem_filter.1 hb).1
   exact ⟨hu, hb.1, fun e => hb.2 e.symm, c1, c2⟩
 cases h
theorem cuts_yes {l : List Lk} {x : Int × Int × List Int} {id : Int} (h : firstK l = some x) (hk : cutOk l x.1 x.2.1 x.2.2 id = true) :
   rightK (cutA l x.1 x.2.1 x.2.2 id) = true ∧ rightK (cutB l x.1 x.2.1 x.2.2 id) = true ∧ ((cutA l x.1 x.2.1 x.2.2 id).length : Int) = (x.2.2.length : Int) + 1 ∧ ((cutB l x.1 x.2.1 x.2.2 id).length : Int) = (l.length : Int) - (x.2.2.length : Int) + 1 ∧
   2 ≤ (x.2.2.length : Int) ∧ 2 ≤ (l.length : Int) - (x.2.2.length : Int) ∧ (∀ i : Int, i = ((cutA l x.1 x.2.1 x.2.2 id).length : Int) - 1 → (cutA l x.1 x.2.1 x.2.2 id).getD i.toNat (0, (0, 0)) = (x.1, (x.2.1, id))) ∧ ∀ i : Int, i = ((cutB l x.1 x.2.1 x.2.2 id).length : Int) - 1 → (cutB l x.1 x.2.1 x.2.2 id).getD i.toNat (0, (0, 0)) = (x.1, (x.2.1, id)) := by
 obtain ⟨hr, hu, hv, hne, hc, hw⟩ := first_mem h
 unfold willB at hw
 rw [Bool.and_eq_true, decide_eq_true_eq, decide_eq_true_eq] at hw
 have hid : ∀ j : Nat, j < l.length → (l.getD j (0, (0, 0))).2.2 ≠ id := fun j hj e => by
   unfold cutOk at hk
   have : (l.any fun b => decide (b.2.2 = id)) = true := List.any_eq_true.2 ⟨_, getD_mem hj, decide_eq_true e⟩
   rw [this] at hk; simp at hk
 obtain ⟨e1, e2⟩ := sum_off hc
 obtain ⟨k1, k2⟩ := cls_closed hc
 have hca := rises_iff.1 (cls_asc hc)
 have eA : cutA l x.1 x.2.1 x.2.2 id = subL l x.2.2 ++ [(x.1, (x.2.1, id))] := by unfold cutA offL; rw [if_pos hk, e1]; rfl
 have eB : cutB l x.1 x.2.1 x.2.2 id = subL l ((upto (l.length : Int)).filter fun j => !hasB x.2.2 j) ++ [(x.1, (x.2.1, id))] := by unfold cutB restL; rw [if_pos hk]; rfl
 rw [eA, eB]
 refine ⟨sub_right hr hu hv hne (fun d hd => mem_upto.2 (hca.2 d hd)) (asc_nodup hca.1) (by omega) k1 hid, sub_right hr hu hv hne (fun d hd => (List.mem_filter.1 hd).1) ((asc_nodup (upto_asc _)).sublist List.filter_sublist) (by omega) k2 hid, by rw [subL_len]; omega, by rw [subL_len]; omega, hw.1, hw.2, fun i hi => ?_, fun i hi => ?_⟩
 · rw [subL_len] at hi
   rw [show i.toNat = x.2.2.length by omega, subL_last]
 rw [subL_len] at hi
 rw [show i.toNat = ((upto (l.length : Int)).filter fun j => !hasB x.2.2 j).length by omega, subL_last]
theorem cuts_no {l : List Lk} {x : Int × Int × List Int} {id : Int} (h : firstK l = some x) (hk : cutOk l x.1 x.2.1 x.2.2 id = false) : 0 ≤ id ∨ (l.any fun b => decide (b.2.2 = id)) = true := by
 obtain ⟨hr, hu, hv, hne, hc, hw⟩ := first_mem h
 unfold cutOk at hk
 rw [takes_any ⟨⟨⟨hr, hne⟩, hu⟩, hv⟩ hc, hw] at hk
 by_cases q : (l.any fun b => decide (b.2.2 = id)) = true
 · exact .inr q
 left
 simp only [Bool.not_eq_true] at q
 rw [q] at hk
 by_cases q2 : 0 ≤ id
 · exact q2
 rw [decide_eq_false q2] at hk; simp at hk
theorem cuts_none {l : List Lk} {id : Int} (h : firstK l = none) : firstD l = (0, (0, [])) ∧ cutOk l 0 0 [] id = false ∧ cutA l 0 0 [] id = [] ∧ cutB l 0 0 [] id = [] := by
 have e : cutOk l 0 0 [] id = false := by
   unfold cutOk willB
   rw [decide_eq_false (show ¬ (2 : Int) ≤ (([] : List Int).length : Int) by simp)]; simp
 refine ⟨by unfold firstD; rw [h]; rfl, e, ?_⟩
 unfold cutA cutB; rw [e]; exact ⟨rfl, rfl⟩
theorem firstD_bd (l : List Lk) : (0 ≤ (firstD l).1 ∧ (firstD l).1 < 1024) ∧ (0 ≤ (firstD l).2.1 ∧ (firstD l).2.1 < 1024) ∧ (firstD l).2.2.length ≤ l.length := by
 unfold firstD
 cases h : firstK l with
 | none => simp
 | some x =>
   obtain ⟨hr, hu, hv, hne, hc, hw⟩ := first_mem h
   have hvb := (rises_iff.1 (verts_rises (rk_wh hr).1)).2
   exact ⟨hvb _ hu, hvb _ hv, class_len hc⟩
theorem cuts_yesD {l : List Lk} {id : Int} (h : (firstK l).isSome = true) (hk : cutOk l (firstD l).1 (firstD l).2.1 (firstD l).2.2 id = true) :
   rightK (cutA l (firstD l).1 (firstD l).2.1 (firstD l).2.2 id) = true ∧ rightK (cutB l (firstD l).1 (firstD l).2.1 (firstD l).2.2 id) = true ∧ ((cutA l (firstD l).1 (firstD l).2.1 (firstD l).2.2 id).length : Int) = ((firstD l).2.2.length : Int) + 1 ∧ ((cutB l (firstD l).1 (firstD l).2.1 (firstD l).2.2 id).length : Int) = (l.length : Int) - ((firstD l).2.2.length : Int) + 1 ∧
   2 ≤ ((firstD l).2.2.length : Int) ∧ 2 ≤ (l.length : Int) - ((firstD l).2.2.length : Int) ∧ (∀ i : Int, i = ((cutA l (firstD l).1 (firstD l).2.1 (firstD l).2.2 id).length : Int) - 1 → (cutA l (firstD l).1 (firstD l).2.1 (firstD l).2.2 id).getD i.toNat (0, (0, 0)) = ((firstD l).1, ((firstD l).2.1, id))) ∧
   ∀ i : Int, i = ((cutB l (firstD l).1 (firstD l).2.1 (firstD l).2.2 id).length : Int) - 1 → (cutB l (firstD l).1 (firstD l).2.1 (firstD l).2.2 id).getD i.toNat (0, (0, 0)) = ((firstD l).1, ((firstD l).2.1, id)) := by
 obtain ⟨x, hx⟩ := Option.isSome_iff_exists.1 h
 have e : firstD l = x := by unfold firstD; rw [hx]; rfl
 rw [e] at hk ⊢
 exact cuts_yes hx hk
theorem cuts_F {l : List Lk} {id : Int} (h : (firstK l).isSome = false ∨ cutOk l (firstD l).1 (firstD l).2.1 (firstD l).2.2 id = false) :
   cutA l (firstD l).1 (firstD l).2.1 (firstD l).2.2 id = [] ∧ cutB l (firstD l).1 (firstD l).2.1 (firstD l).2.2 id = [] ∧ ((!(firstK l).isSome || decide (0 ≤ id)) || l.any fun b => decide (b.2.2 = id)) = true := by
 cases hf : firstK l with
 | none =>
   obtain ⟨e, k1, k2, k3⟩ := cuts_none (id := id) hf
   rw [e]
   exact ⟨k2, k3, by simp⟩
 | some x =>
   have e : firstD l = x := by unfold firstD; rw [hf]; rfl
   rw [hf, e] at h
   have hk : cutOk l x.1 x.2.1 x.2.2 id = false := by
     rcases h with h | h
     · cases h
     exact h
   rw [e]
   refine ⟨by unfold cutA; rw [if_neg (by rw [hk]; decide)], by unfold cutB; rw [if_neg (by rw [hk]; decide)], ?_⟩
   rcases cuts_no hf hk with q | q
   · rw [decide_eq_true q]; simp
   rw [q]; simp
theorem cut_wf {l : List Lk} {x y id : Int} {sd : List Int} (h : WfL l) (hx : wfI x) (hy : wfI y) (hid : wfI id) : WfL (cutA l x y sd id) ∧ WfL (cutB l x y sd id) := by
 have key : ∀ p : Int → Bool, WfL (((upto (l.length : Int)).filter p).map (fun j => l.getD j.toNat (0, (0, 0))) ++ [(x, (y, id))]) := fun p => wfL_of fun b hb => by
   rcases List.mem_append.1 hb with hb | hb
   · obtain ⟨j, hj, rfl⟩ := List.mem_map.1 hb
     have hj := mem_upto.1 (List.mem_filter.1 hj).1
     exact h j hj.1 hj.2
   rw [List.mem_singleton] at hb; subst hb; exact ⟨hx, hy, hid⟩
 have nil : WfL [] := fun i h0 h1 => by simp at h1; omega
 unfold cutA cutB
 constructor
 · split
   · exact key _
   exact nil
 split
 · exact key _
 exact nil
theorem pairCuts_any (vl : Value) (l : List (Int × Int × Int)) (id : Int) (w : World) (hL : Rd (· < w.heap.size) w vl l) (hs : l.length ≤ 9223372036854775807) (hwf : WfL l) (hid : -9223372036854775808 ≤ id ∧ id ≤ 9223372036854775807) :
 Calls Try.prog 15 [vl, .int .i64 id].toArray w (Ans (.bool true) w) := by
 refine enter Try.f15 117 Try.func15 fun a hA => ?_
 replace hA := env_sub [(0, vl), (1, iv id)] hA
 have H := Fr.start (org w)
 refine go_seq fun K1 hK1 => ?_
 refine q_reg [] [(0, vl), (1, iv id)] (TT ∧ True) hA H ⟨tv, tv⟩ fun a w2 hA H hG => ?_
 refine hK1 _ _ ?_
 refine go_seq fun K3 hK3 => ?_
 refine go_seq fun K4 hK4 => ?_
 refine q_reg [(10, .bool true), (14, iv (l.length : Int))] [(0, vl), (1, iv id), (16, .bool (decide ((16 : Int) < (l.length : Int))))] ((Callable Try.prog 55 ∧ CallOk Try.prog (On w2) 55 [].toArray (.bool true)) ∧ TT ∧ TT ∧ ((false) = false → True) ∧ ((false) = false → LenOk vl (l.length : Int)) ∧ ((false) = false → True) ∧ TT ∧ True) hA H ⟨⟨callable_of, callOk_of fun w hw => by exact awakeP_any w⟩, tv, tv, fun _ => tv, fun _ => by exact len_ok (H.arg hL), fun _ => tv, tv, tv⟩ fun a w5 hA H hG => ?_
 refine hK4 _ _ ?_
 refine go_cond hA (.tmp 16) (decide ((16 : Int) < (l.length : Int))) (fun hb6 => ?_) (fun hb6 => ?_)
 · have hhb6 := of_decide_eq_true hb6
   refine go_seq fun K7 hK7 => ?_
   refine q_reg [(17, .bool true)] [(4, .bool true)] ((Callable Try.prog 55 ∧ CallOk Try.prog (On w5) 55 [].toArray (.bool true)) ∧ TT ∧ True) hA H ⟨⟨callable_of, callOk_of fun w hw => by exact awakeP_any w⟩, tv, tv⟩ fun a w8 hA H hG => ?_
   refine hK7 _ _ ?_
   refine go_ret_ ?_
   refine ret_one 4 (.bool true) hA ?_
   exact ans_b' rfl H.below
 have hhb6 := of_decide_eq_false hb6
 refine go_skip ?_
 refine hK3 _ _ ?_
 refine go_seq fun K9 hK9 => ?_
 have hs2 : l.length ≤ 16 := by omega
 obtain ⟨hf1, hf2, hf3⟩ := firstD_bd l
 obtain ⟨hwA, hwB⟩ := cut_wf (sd := (firstD l).2.2) hwf (x := (firstD l).1) (y := (firstD l).2.1) (id := id) ⟨by omega, by omega⟩ ⟨by omega, by omega⟩ hid
 have hcla := cutA_len l (firstD l).1 (firstD l).2.1 (firstD l).2.2 id; have hclb := cutB_len l (firstD l).1 (firstD l).2.1 (firstD l).2.2 id
 refine region_list ?_
 refine q_list 0 1 [] [(0, vl), (1, iv id), (19, vl)] (TT ∧ True) hA H ⟨tv, tv⟩ fun a w10 hA H hG => ?_
 refine list_at 1 ?_; refine q_call 1 20 57 #[.tmp 19] #[66] [vl] (fun S v_ w' => Rd S w' v_ (l)) [(0, vl), (1, iv id)] hA H (by exact of_any vl l H.at ((H.arg hL)) (by omega)) fun v11 a w12 S hR13 H hA hG => ?_
 replace H := H.ro hR13
 refine list_at 2 ?_; refine q_call 2 21 65 #[.tmp 20] #[69] [v11] _ [(0, vl), (1, iv id)] hA H (by exact first_any v11 l H.at ((H.get 0 rfl)) (by omega) hwf) fun v15 a w16 S hR17 H hA hG => ?_
 obtain ⟨v15s, rfl, hR17s⟩ := hR17
 replace H := H.ro hR17s
 replace H : Fr _ _ _ [.ro v15s (firstD l).2.2, .ro v11 l] := H
 refine q_list 3 3 [] [(0, vl), (1, iv id), (22, .agg #[.int .i64 ((firstD l).1), .int .i64 ((firstD l).2.1), v15s]), (23, .bool ((firstK l).isSome))] (TT ∧ TT ∧ TT ∧ True) hA H ⟨tv, tv, tv, tv⟩ fun a w19 hA H hG => ?_
 refine list_at 6 ?_; refine q_alloc 6 5 81 [.int .i64 0, .int .i64 0, (.slice none 0 0)] [(0, vl), (1, iv id), (22, .agg #[.int .i64 ((firstD l).1), .int .i64 ((firstD l).2.1), v15s]), (23, .bool ((firstK l).isSome))] hA H fun b20 a w21 H hA hG hge_b20 => ?_
 clear hge_b20
 refine list_at 7 ?_; refine q_store 7 81 (.tmp 5) (.tmp 22) 0 b20 (0) 81 [.int .i64 0, .int .i64 0, (.slice none 0 0)] [.int .i64 ((firstD l).1), .int .i64 ((firstD l).2.1), v15s] [.int .i64 ((firstD l).1), .int .i64 ((firstD l).2.1), v15s] (.agg #[.int .i64 ((firstD l).1), .int .i64 ((firstD l).2.1), v15s]) [(0, vl), (1, iv id), (5, pv b20), (23, .bool ((firstK l).isSome))] hA H rfl rfl (Nat.le_of_ble_eq_true (by kernel_rfl)) rfl (fun v hv => by simp only [List.mem_cons, List.not_mem_nil, or_false] at hv; rcases hv with rfl | rfl | rfl; exact rfl; exact rfl; exact (rd_one (H.get 1 rfl))) fun a w22 H hA hG => ?_
 replace H : Fr _ _ _ [.box b20 81 [.int .i64 ((firstD l).1), .int .i64 ((firstD l).2.1), v15s], .ro v15s (firstD l).2.2, .ro v11 l] := H
 refine q_list 8 1 [] [(0, vl), (1, iv id), (5, pv b20), (6, .bool ((firstK l).isSome))] (TT ∧ True) hA H ⟨tv, tv⟩ fun a w23 hA H hG => ?_
 refine list_end ?_
 refine hK9 _ _ ?_
 refine go_seq fun K24 hK24 => ?_
 have H0 := H
 have hM0 := H0.keeps none (.inl rfl)
 refine region_mix (But w23 none) [0, 1, 2, 3, 4, 5, 6, 7, 8, 9, 10] 12 ?_
 replace H := H.drawn; have hD := But.drew w23 none
 generalize ({ w23 with drawn := w23.drawn + 1 } : World) = w25 at H hD ⊢
 refine m_take (n := 9) [0, 2, 3] #[true, false, true, true, false, false, false, false, false, false, false, false] [(27, .agg #[.int .i64 ((firstD l).1), .int .i64 ((firstD l).2.1), v15s])] [(0, vl), (1, iv id), (6, .bool ((firstK l).isSome)), (25, vl), (27, .agg #[.int .i64 ((firstD l).1), .int .i64 ((firstD l).2.1), v15s]), (28, iv id)] (TT ∧ ((Try.prog.info? 81).isSome = true ∧ RowOk (But w23 none) b20 (0) (Try.prog.cellsOf 81) #[.int .i64 ((firstD l).1), .int .i64 ((firstD l).2.1), v15s]) ∧ TT ∧ True) hA hD ⟨tv, ⟨by kernel_rfl, by exact box_rowC (box_atC H0 none 0 rfl (fun e => by cases e)) 0 3⟩, tv, tv⟩ fun a hA => ?_
 refine m_one 1 ?_; refine q_call 1 26 57 #[.tmp 25] #[66] [vl] (fun S v_ w' => Rd S w' v_ (l)) [(0, vl), (1, iv id), (6, .bool ((firstK l).isSome)), (27, .agg #[.int .i64 ((firstD l).1), .int .i64 ((firstD l).2.1), v15s]), (28, iv id)] hA H (by exact of_any vl l H.at ((H.arg hL)) (by omega)) fun v26 a w27 S hR28 H hA hG => ?_
 replace H := H.ro hR28
 replace hD := hD.below hG
 refine ⟨fun _ => hD, ?_⟩
 refine m_one 4 ?_; refine q_call 4 29 68 #[.tmp 26, .tmp 27, .tmp 28] #[69, 81, 3] [v26, .agg #[.int .i64 ((firstD l).1), .int .i64 ((firstD l).2.1), v15s], .int .i64 id] _ [(0, vl), (1, iv id), (6, .bool ((firstK l).isSome))] hA H (by exact cut_any v26 l ((firstD l).1) ((firstD l).2.1) v15s ((firstD l).2.2) id H.at ((H.get 0 rfl)) (by omega) ((H.get 2 rfl)) (by (try rw [List.length_drop]); omega) hwf (by omega) (by omega) (by omega)) fun v30 a w31 S hR32 H hA hG => ?_
 obtain ⟨v300, v301, rfl, hR320, hR321⟩ := hR32
 replace H := H.ro hR320; replace H := H.ro hR321
 replace H : Fr _ _ _ [.ro v301 (cutB l ((firstD l).1) ((firstD l).2.1) ((firstD l).2.2) id), .ro v300 (cutA l ((firstD l).1) ((firstD l).2.1) ((firstD l).2.2) id), .ro v26 l, .box b20 81 [.int .i64 ((firstD l).1), .int .i64 ((firstD l).2.1), v15s], .ro v15s (firstD l).2.2, .ro v11 l] := H
 replace hD := hD.below hG
 refine ⟨fun _ => hD, ?_⟩
 refine m_take (n := 1) [5, 6, 7, 8, 9, 10] #[true, true, true, true, true, true, true, true, true, true, true, false] [] [(0, vl), (1, iv id), (6, .bool ((firstK l).isSome)), (7, v300), (8, v301), (32, .bool (cutOk l ((firstD l).1) ((firstD l).2.1) ((firstD l).2.2) id))] (TT ∧ TT ∧ TT ∧ TT ∧ TT ∧ TT ∧ True) hA hD ⟨tv, tv, tv, tv, tv, tv, tv⟩ fun a hA => ?_
 refine m_one 11 ?_; refine q_one 11 [] [(0, vl), (1, iv id), (6, .bool ((firstK l).isSome)), (7, v300), (8, v301), (9, .bool (cutOk l ((firstD l).1) ((firstD l).2.1) ((firstD l).2.2) id))] (TT ∧ True) hA H ⟨tv, tv⟩ fun a w35 H hA hG => ?_
 refine ⟨fun h => absurd h (by decide), ?_⟩
 refine m_end ?_
 refine hK24 _ _ ?_
 refine go_seq fun K36 hK36 => ?_
 refine go_seq fun K37 hK37 => ?_
 refine q_reg [] [(0, vl), (1, iv id), (6, .bool ((firstK l).isSome)), (7, v300), (8, v301), (38, .bool ((!((firstK l).isSome)) || (!(cutOk l ((firstD l).1) ((firstD l).2.1) ((firstD l).2.2) id))))] (TT ∧ TT ∧ TT ∧ ((!((firstK l).isSome)) = false → True) ∧ ((!((firstK l).isSome)) = false → True) ∧ TT ∧ True) hA H ⟨tv, tv, tv, fun _ => tv, fun _ => tv, tv, tv⟩ fun a w38 hA H hG => ?_
 refine hK37 _ _ ?_
 refine go_cond hA (.tmp 38) ((!((firstK l).isSome)) || (!(cutOk l ((firstD l).1) ((firstD l).2.1) ((firstD l).2.2) id))) (fun hb39 => ?_) (fun hb39 => ?_)
 · have hhb39 := (oT hb39).imp (fun h => (nT h)) (fun h => (nT h))
   refine go_seq fun K40 hK40 => ?_
   refine q_reg [(40, iv ((cutA l ((firstD l).1) ((firstD l).2.1) ((firstD l).2.2) id).length : Int)), (44, iv ((cutB l ((firstD l).1) ((firstD l).2.1) ((firstD l).2.2) id).length : Int)), (57, .bool (l.any fun b => decide (b.2.2 = id)))] [(4, .bool (((decide (((cutA l ((firstD l).1) ((firstD l).2.1) ((firstD l).2.2) id).length : Int) = 0)) && (decide (((cutB l ((firstD l).1) ((firstD l).2.1) ((firstD l).2.2) id).length : Int) = 0))) && (((!((firstK l).isSome)) || (decide ((0 : Int) ≤ id))) || (l.any fun b => decide (b.2.2 = id)))))] (TT ∧ (LenOk v300 ((cutA l ((firstD l).1) ((firstD l).2.1) ((firstD l).2.2) id).length : Int)) ∧ TT ∧ TT ∧ ((decide (((cutA l ((firstD l).1) ((firstD l).2.1) ((firstD l).2.2) id).length : Int) = 0)) = true → True) ∧ ((decide (((cutA l ((firstD l).1) ((firstD l).2.1) ((firstD l).2.2) id).length : Int) = 0)) = true → LenOk v301 ((cutB l ((firstD l).1) ((firstD l).2.1) ((firstD l).2.2) id).length : Int)) ∧ ((decide (((cutA l ((firstD l).1) ((firstD l).2.1) ((firstD l).2.2) id).length : Int) = 0)) = true → True) ∧ TT ∧ TT ∧ (((decide (((cutA l ((firstD l).1) ((firstD l).2.1) ((firstD l).2.2) id).length : Int) = 0)) && (decide (((cutB l ((firstD l).1) ((firstD l).2.1) ((firstD l).2.2) id).length : Int) = 0))) = true → True) ∧ (((decide (((cutA l ((firstD l).1) ((firstD l).2.1) ((firstD l).2.2) id).length : Int) = 0)) && (decide (((cutB l ((firstD l).1) ((firstD l).2.1) ((firstD l).2.2) id).length : Int) = 0))) = true → True) ∧ (((decide (((cutA l ((firstD l).1) ((firstD l).2.1) ((firstD l).2.2) id).length : Int) = 0)) && (decide (((cutB l ((firstD l).1) ((firstD l).2.1) ((firstD l).2.2) id).length : Int) = 0))) = true → True) ∧ (((decide (((cutA l ((firstD l).1) ((firstD l).2.1) ((firstD l).2.2) id).length : Int) = 0)) && (decide (((cutB l ((firstD l).1) ((firstD l).2.1) ((firstD l).2.2) id).length : Int) = 0))) = true → (!((firstK l).isSome)) = false → True) ∧ (((decide (((cutA l ((firstD l).1) ((firstD l).2.1) ((firstD l).2.2) id).length : Int) = 0)) && (decide (((cutB l ((firstD l).1) ((firstD l).2.1) ((firstD l).2.2) id).length : Int) = 0))) = true → (!((firstK l).isSome)) = false → True) ∧ (((decide (((cutA l ((firstD l).1) ((firstD l).2.1) ((firstD l).2.2) id).length : Int) = 0)) && (decide (((cutB l ((firstD l).1) ((firstD l).2.1) ((firstD l).2.2) id).length : Int) = 0))) = true → True) ∧ (((decide (((cutA l ((firstD l).1) ((firstD l).2.1) ((firstD l).2.2) id).length : Int) = 0)) && (decide (((cutB l ((firstD l).1) ((firstD l).2.1) ((firstD l).2.2) id).length : Int) = 0))) = true → True) ∧ (((decide (((cutA l ((firstD l).1) ((firstD l).2.1) ((firstD l).2.2) id).length : Int) = 0)) && (decide (((cutB l ((firstD l).1) ((firstD l).2.1) ((firstD l).2.2) id).length : Int) = 0))) = true → ((!((firstK l).isSome)) || (decide ((0 : Int) ≤ id))) = false → True) ∧ (((decide (((cutA l ((firstD l).1) ((firstD l).2.1) ((firstD l).2.2) id).length : Int) = 0)) && (decide (((cutB l ((firstD l).1) ((firstD l).2.1) ((firstD l).2.2) id).length : Int) = 0))) = true → ((!((firstK l).isSome)) || (decide ((0 : Int) ≤ id))) = false → True) ∧ (((decide (((cutA l ((firstD l).1) ((firstD l).2.1) ((firstD l).2.2) id).length : Int) = 0)) && (decide (((cutB l ((firstD l).1) ((firstD l).2.1) ((firstD l).2.2) id).length : Int) = 0))) = true → ((!((firstK l).isSome)) || (decide ((0 : Int) ≤ id))) = false → Callable Try.prog 69 ∧ CallOk Try.prog (On w38) 69 [vl, .int .i64 id].toArray (.bool (l.any fun b => decide (b.2.2 = id)))) ∧ (((decide (((cutA l ((firstD l).1) ((firstD l).2.1) ((firstD l).2.2) id).length : Int) = 0)) && (decide (((cutB l ((firstD l).1) ((firstD l).2.1) ((firstD l).2.2) id).length : Int) = 0))) = true → True) ∧ TT ∧ TT ∧ True) hA H ⟨tv, by exact len_ok (H.get 1 rfl), tv, tv, fun _ => tv, fun _ => by exact len_ok (H.get 0 rfl), fun _ => tv, tv, tv, fun _ => tv, fun _ => tv, fun _ => tv, fun _ _ => tv, fun _ _ => tv, fun _ => tv, fun _ => tv, fun _ _ => tv, fun _ _ => tv, fun hg0 hg1 => by replace hg0 := (⟨of_decide_eq_true ((aT hg0).1), of_decide_eq_true ((aT hg0).2)⟩ : _ ∧ _); replace hg1 := (⟨(nF ((oF hg1).1)), of_decide_eq_false ((oF hg1).2)⟩ : _ ∧ _); exact ⟨callable_of, callOk_of fun w hw => by exact named_any vl l id w (((H.on hw).arg hL)) (by omega)⟩, fun _ => tv, tv, tv, tv⟩ fun a w41 hA H hG => ?_
   refine hK40 _ _ ?_
   refine go_ret_ ?_
   refine ret_one 4 (.bool (((decide (((cutA l ((firstD l).1) ((firstD l).2.1) ((firstD l).2.2) id).length : Int) = 0)) && (decide (((cutB l ((firstD l).1) ((firstD l).2.1) ((firstD l).2.2) id).length : Int) = 0))) && (((!((firstK l).isSome)) || (decide ((0 : Int) ≤ id))) || (l.any fun b => decide (b.2.2 = id))))) hA ?_
   exact ans_b' (by obtain ⟨q1, q2, q3⟩ := cuts_F hhb39; rw [q1, q2]; simpa using q3) H.below
 have hhb39 := (⟨(nF ((oF hb39).1)), (nF ((oF hb39).2))⟩ : _ ∧ _)
 refine go_skip ?_
 refine hK36 _ _ ?_
 refine go_seq fun K42 hK42 => ?_
 obtain ⟨hfs, hck⟩ := And.intro hhb39.1 hhb39.2
 obtain ⟨kA, kB, la, lb, h2a, h2b, ga, gb⟩ := cuts_yesD hfs hck
 refine q_draw [(61, .bool (rightK (cutA l ((firstD l).1) ((firstD l).2.1) ((firstD l).2.2) id))), (64, .bool (rightK (cutB l ((firstD l).1) ((firstD l).2.1) ((firstD l).2.2) id))), (68, iv ((cutA l ((firstD l).1) ((firstD l).2.1) ((firstD l).2.2) id).length : Int)), (70, iv (l.length : Int)), (75, iv ((cutB l ((firstD l).1) ((firstD l).2.1) ((firstD l).2.2) id).length : Int)), (77, iv (l.length : Int)), (82, iv ((cutA l ((firstD l).1) ((firstD l).2.1) ((firstD l).2.2) id).length : Int)), (84, iv ((cutB l ((firstD l).1) ((firstD l).2.1) ((firstD l).2.2) id).length : Int)), (87, iv (l.length : Int)), (94, iv ((cutA l ((firstD l).1) ((firstD l).2.1) ((firstD l).2.2) id).length : Int)), (97, .agg #[.int .i64 (((cutA l ((firstD l).1) ((firstD l).2.1) ((firstD l).2.2) id).getD (((cutA l ((firstD l).1) ((firstD l).2.1) ((firstD l).2.2) id).length : Int) - 1).toNat (0, (0, 0))).1), .int .i64 ((((cutA l ((firstD l).1) ((firstD l).2.1) ((firstD l).2.2) id).getD (((cutA l ((firstD l).1) ((firstD l).2.1) ((firstD l).2.2) id).length : Int) - 1).toNat (0, (0, 0))).2).1), .int .i64 ((((cutA l ((firstD l).1) ((firstD l).2.1) ((firstD l).2.2) id).getD (((cutA l ((firstD l).1) ((firstD l).2.1) ((firstD l).2.2) id).length : Int) - 1).toNat (0, (0, 0))).2).2)]), (100, iv ((cutB l ((firstD l).1) ((firstD l).2.1) ((firstD l).2.2) id).length : Int)), (103, .agg #[.int .i64 (((cutB l ((firstD l).1) ((firstD l).2.1) ((firstD l).2.2) id).getD (((cutB l ((firstD l).1) ((firstD l).2.1) ((firstD l).2.2) id).length : Int) - 1).toNat (0, (0, 0))).1), .int .i64 ((((cutB l ((firstD l).1) ((firstD l).2.1) ((firstD l).2.2) id).getD (((cutB l ((firstD l).1) ((firstD l).2.1) ((firstD l).2.2) id).length : Int) - 1).toNat (0, (0, 0))).2).1), .int .i64 ((((cutB l ((firstD l).1) ((firstD l).2.1) ((firstD l).2.2) id).getD (((cutB l ((firstD l).1) ((firstD l).2.1) ((firstD l).2.2) id).length : Int) - 1).toNat (0, (0, 0))).2).2)]), (104, .bool ((decide (((cutA l ((firstD l).1) ((firstD l).2.1) ((firstD l).2.2) id).getD (((cutA l ((firstD l).1) ((firstD l).2.1) ((firstD l).2.2) id).length : Int) - 1).toNat (0, (0, 0))).1 = ((cutB l ((firstD l).1) ((firstD l).2.1) ((firstD l).2.2) id).getD (((cutB l ((firstD l).1) ((firstD l).2.1) ((firstD l).2.2) id).length : Int) - 1).toNat (0, (0, 0))).1)) && ((decide ((((cutA l ((firstD l).1) ((firstD l).2.1) ((firstD l).2.2) id).getD (((cutA l ((firstD l).1) ((firstD l).2.1) ((firstD l).2.2) id).length : Int) - 1).toNat (0, (0, 0))).2).1 = (((cutB l ((firstD l).1) ((firstD l).2.1) ((firstD l).2.2) id).getD (((cutB l ((firstD l).1) ((firstD l).2.1) ((firstD l).2.2) id).length : Int) - 1).toNat (0, (0, 0))).2).1)) && (decide ((((cutA l ((firstD l).1) ((firstD l).2.1) ((firstD l).2.2) id).getD (((cutA l ((firstD l).1) ((firstD l).2.1) ((firstD l).2.2) id).length : Int) - 1).toNat (0, (0, 0))).2).2 = (((cutB l ((firstD l).1) ((firstD l).2.1) ((firstD l).2.2) id).getD (((cutB l ((firstD l).1) ((firstD l).2.1) ((firstD l).2.2) id).length : Int) - 1).toNat (0, (0, 0))).2).2))))), (109, iv ((cutA l ((firstD l).1) ((firstD l).2.1) ((firstD l).2.2) id).length : Int)), (113, iv ((((cutA l ((firstD l).1) ((firstD l).2.1) ((firstD l).2.2) id).getD (((cutA l ((firstD l).1) ((firstD l).2.1) ((firstD l).2.2) id).length : Int) - 1).toNat (0, (0, 0))).2).2))] [(4, .bool (((((((rightK (cutA l ((firstD l).1) ((firstD l).2.1) ((firstD l).2.2) id)) && (rightK (cutB l ((firstD l).1) ((firstD l).2.1) ((firstD l).2.2) id))) && (decide (((cutA l ((firstD l).1) ((firstD l).2.1) ((firstD l).2.2) id).length : Int) < (l.length : Int)))) && (decide (((cutB l ((firstD l).1) ((firstD l).2.1) ((firstD l).2.2) id).length : Int) < (l.length : Int)))) && (decide (((cutA l ((firstD l).1) ((firstD l).2.1) ((firstD l).2.2) id).length : Int) + ((cutB l ((firstD l).1) ((firstD l).2.1) ((firstD l).2.2) id).length : Int) = (l.length : Int) + 2))) && ((decide (((cutA l ((firstD l).1) ((firstD l).2.1) ((firstD l).2.2) id).getD (((cutA l ((firstD l).1) ((firstD l).2.1) ((firstD l).2.2) id).length : Int) - 1).toNat (0, (0, 0))).1 = ((cutB l ((firstD l).1) ((firstD l).2.1) ((firstD l).2.2) id).getD (((cutB l ((firstD l).1) ((firstD l).2.1) ((firstD l).2.2) id).length : Int) - 1).toNat (0, (0, 0))).1)) && ((decide ((((cutA l ((firstD l).1) ((firstD l).2.1) ((firstD l).2.2) id).getD (((cutA l ((firstD l).1) ((firstD l).2.1) ((firstD l).2.2) id).length : Int) - 1).toNat (0, (0, 0))).2).1 = (((cutB l ((firstD l).1) ((firstD l).2.1) ((firstD l).2.2) id).getD (((cutB l ((firstD l).1) ((firstD l).2.1) ((firstD l).2.2) id).length : Int) - 1).toNat (0, (0, 0))).2).1)) && (decide ((((cutA l ((firstD l).1) ((firstD l).2.1) ((firstD l).2.2) id).getD (((cutA l ((firstD l).1) ((firstD l).2.1) ((firstD l).2.2) id).length : Int) - 1).toNat (0, (0, 0))).2).2 = (((cutB l ((firstD l).1) ((firstD l).2.1) ((firstD l).2.2) id).getD (((cutB l ((firstD l).1) ((firstD l).2.1) ((firstD l).2.2) id).length : Int) - 1).toNat (0, (0, 0))).2).2))))) && (decide ((((cutA l ((firstD l).1) ((firstD l).2.1) ((firstD l).2.2) id).getD (((cutA l ((firstD l).1) ((firstD l).2.1) ((firstD l).2.2) id).length : Int) - 1).toNat (0, (0, 0))).2).2 = id))))] (TT ∧ (Callable Try.prog 59 ∧ CallOk Try.prog (On w38) 59 [v300].toArray (.bool (rightK (cutA l ((firstD l).1) ((firstD l).2.1) ((firstD l).2.2) id)))) ∧ TT ∧ ((rightK (cutA l ((firstD l).1) ((firstD l).2.1) ((firstD l).2.2) id)) = true → True) ∧ ((rightK (cutA l ((firstD l).1) ((firstD l).2.1) ((firstD l).2.2) id)) = true → Callable Try.prog 59 ∧ CallOk Try.prog (On w38) 59 [v301].toArray (.bool (rightK (cutB l ((firstD l).1) ((firstD l).2.1) ((firstD l).2.2) id)))) ∧ TT ∧ TT ∧ (((rightK (cutA l ((firstD l).1) ((firstD l).2.1) ((firstD l).2.2) id)) && (rightK (cutB l ((firstD l).1) ((firstD l).2.1) ((firstD l).2.2) id))) = true → True) ∧ (((rightK (cutA l ((firstD l).1) ((firstD l).2.1) ((firstD l).2.2) id)) && (rightK (cutB l ((firstD l).1) ((firstD l).2.1) ((firstD l).2.2) id))) = true → LenOk v300 ((cutA l ((firstD l).1) ((firstD l).2.1) ((firstD l).2.2) id).length : Int)) ∧ (((rightK (cutA l ((firstD l).1) ((firstD l).2.1) ((firstD l).2.2) id)) && (rightK (cutB l ((firstD l).1) ((firstD l).2.1) ((firstD l).2.2) id))) = true → True) ∧ (((rightK (cutA l ((firstD l).1) ((firstD l).2.1) ((firstD l).2.2) id)) && (rightK (cutB l ((firstD l).1) ((firstD l).2.1) ((firstD l).2.2) id))) = true → LenOk vl (l.length : Int)) ∧ (((rightK (cutA l ((firstD l).1) ((firstD l).2.1) ((firstD l).2.2) id)) && (rightK (cutB l ((firstD l).1) ((firstD l).2.1) ((firstD l).2.2) id))) = true → True) ∧ TT ∧ TT ∧ ((((rightK (cutA l ((firstD l).1) ((firstD l).2.1) ((firstD l).2.2) id)) && (rightK (cutB l ((firstD l).1) ((firstD l).2.1) ((firstD l).2.2) id))) && (decide (((cutA l ((firstD l).1) ((firstD l).2.1) ((firstD l).2.2) id).length : Int) < (l.length : Int)))) = true → True) ∧ ((((rightK (cutA l ((firstD l).1) ((firstD l).2.1) ((firstD l).2.2) id)) && (rightK (cutB l ((firstD l).1) ((firstD l).2.1) ((firstD l).2.2) id))) && (decide (((cutA l ((firstD l).1) ((firstD l).2.1) ((firstD l).2.2) id).length : Int) < (l.length : Int)))) = true → LenOk v301 ((cutB l ((firstD l).1) ((firstD l).2.1) ((firstD l).2.2) id).length : Int)) ∧ ((((rightK (cutA l ((firstD l).1) ((firstD l).2.1) ((firstD l).2.2) id)) && (rightK (cutB l ((firstD l).1) ((firstD l).2.1) ((firstD l).2.2) id))) && (decide (((cutA l ((firstD l).1) ((firstD l).2.1) ((firstD l).2.2) id).length : Int) < (l.length : Int)))) = true → True) ∧ ((((rightK (cutA l ((firstD l).1) ((firstD l).2.1) ((firstD l).2.2) id)) && (rightK (cutB l ((firstD l).1) ((firstD l).2.1) ((firstD l).2.2) id))) && (decide (((cutA l ((firstD l).1) ((firstD l).2.1) ((firstD l).2.2) id).length : Int) < (l.length : Int)))) = true → LenOk vl (l.length : Int)) ∧ ((((rightK (cutA l ((firstD l).1) ((firstD l).2.1) ((firstD l).2.2) id)) && (rightK (cutB l ((firstD l).1) ((firstD l).2.1) ((firstD l).2.2) id))) && (decide (((cutA l ((firstD l).1) ((firstD l).2.1) ((firstD l).2.2) id).length : Int) < (l.length : Int)))) = true → True) ∧ TT ∧ TT ∧ (((((rightK (cutA l ((firstD l).1) ((firstD l).2.1) ((firstD l).2.2) id)) && (rightK (cutB l ((firstD l).1) ((firstD l).2.1) ((firstD l).2.2) id))) && (decide (((cutA l ((firstD l).1) ((firstD l).2.1) ((firstD l).2.2) id).length : Int) < (l.length : Int)))) && (decide (((cutB l ((firstD l).1) ((firstD l).2.1) ((firstD l).2.2) id).length : Int) < (l.length : Int)))) = true → True) ∧ (((((rightK (cutA l ((firstD l).1) ((firstD l).2.1) ((firstD l).2.2) id)) && (rightK (cutB l ((firstD l).1) ((firstD l).2.1) ((firstD l).2.2) id))) && (decide (((cutA l ((firstD l).1) ((firstD l).2.1) ((firstD l).2.2) id).length : Int) < (l.length : Int)))) && (decide (((cutB l ((firstD l).1) ((firstD l).2.1) ((firstD l).2.2) id).length : Int) < (l.length : Int)))) = true → LenOk v300 ((cutA l ((firstD l).1) ((firstD l).2.1) ((firstD l).2.2) id).length : Int)) ∧ (((((rightK (cutA l ((firstD l).1) ((firstD l).2.1) ((firstD l).2.2) id)) && (rightK (cutB l ((firstD l).1) ((firstD l).2.1) ((firstD l).2.2) id))) && (decide (((cutA l ((firstD l).1) ((firstD l).2.1) ((firstD l).2.2) id).length : Int) < (l.length : Int)))) && (decide (((cutB l ((firstD l).1) ((firstD l).2.1) ((firstD l).2.2) id).length : Int) < (l.length : Int)))) = true → True) ∧ (((((rightK (cutA l ((firstD l).1) ((firstD l).2.1) ((firstD l).2.2) id)) && (rightK (cutB l ((firstD l).1) ((firstD l).2.1) ((firstD l).2.2) id))) && (decide (((cutA l ((firstD l).1) ((firstD l).2.1) ((firstD l).2.2) id).length : Int) < (l.length : Int)))) && (decide (((cutB l ((firstD l).1) ((firstD l).2.1) ((firstD l).2.2) id).length : Int) < (l.length : Int)))) = true → LenOk v301 ((cutB l ((firstD l).1) ((firstD l).2.1) ((firstD l).2.2) id).length : Int)) ∧ (((((rightK (cutA l ((firstD l).1) ((firstD l).2.1) ((firstD l).2.2) id)) && (rightK (cutB l ((firstD l).1) ((firstD l).2.1) ((firstD l).2.2) id))) && (decide (((cutA l ((firstD l).1) ((firstD l).2.1) ((firstD l).2.2) id).length : Int) < (l.length : Int)))) && (decide (((cutB l ((firstD l).1) ((firstD l).2.1) ((firstD l).2.2) id).length : Int) < (l.length : Int)))) = true → InR .i64 (((cutA l ((firstD l).1) ((firstD l).2.1) ((firstD l).2.2) id).length : Int) + ((cutB l ((firstD l).1) ((firstD l).2.1) ((firstD l).2.2) id).length : Int))) ∧ (((((rightK (cutA l ((firstD l).1) ((firstD l).2.1) ((firstD l).2.2) id)) && (rightK (cutB l ((firstD l).1) ((firstD l).2.1) ((firstD l).2.2) id))) && (decide (((cutA l ((firstD l).1) ((firstD l).2.1) ((firstD l).2.2) id).length : Int) < (l.length : Int)))) && (decide (((cutB l ((firstD l).1) ((firstD l).2.1) ((firstD l).2.2) id).length : Int) < (l.length : Int)))) = true → True) ∧ (((((rightK (cutA l ((firstD l).1) ((firstD l).2.1) ((firstD l).2.2) id)) && (rightK (cutB l ((firstD l).1) ((firstD l).2.1) ((firstD l).2.2) id))) && (decide (((cutA l ((firstD l).1) ((firstD l).2.1) ((firstD l).2.2) id).length : Int) < (l.length : Int)))) && (decide (((cutB l ((firstD l).1) ((firstD l).2.1) ((firstD l).2.2) id).length : Int) < (l.length : Int)))) = true → LenOk vl (l.length : Int)) ∧ (((((rightK (cutA l ((firstD l).1) ((firstD l).2.1) ((firstD l).2.2) id)) && (rightK (cutB l ((firstD l).1) ((firstD l).2.1) ((firstD l).2.2) id))) && (decide (((cutA l ((firstD l).1) ((firstD l).2.1) ((firstD l).2.2) id).length : Int) < (l.length : Int)))) && (decide (((cutB l ((firstD l).1) ((firstD l).2.1) ((firstD l).2.2) id).length : Int) < (l.length : Int)))) = true → InR .i64 ((l.length : Int) + 2)) ∧ (((((rightK (cutA l ((firstD l).1) ((firstD l).2.1) ((firstD l).2.2) id)) && (rightK (cutB l ((firstD l).1) ((firstD l).2.1) ((firstD l).2.2) id))) && (decide (((cutA l ((firstD l).1) ((firstD l).2.1) ((firstD l).2.2) id).length : Int) < (l.length : Int)))) && (decide (((cutB l ((firstD l).1) ((firstD l).2.1) ((firstD l).2.2) id).length : Int) < (l.length : Int)))) = true → True) ∧ TT ∧ TT ∧ ((((((rightK (cutA l ((firstD l).1) ((firstD l).2.1) ((firstD l).2.2) id)) && (rightK (cutB l ((firstD l).1) ((firstD l).2.1) ((firstD l).2.2) id))) && (decide (((cutA l ((firstD l).1) ((firstD l).2.1) ((firstD l).2.2) id).length : Int) < (l.length : Int)))) && (decide (((cutB l ((firstD l).1) ((firstD l).2.1) ((firstD l).2.2) id).length : Int) < (l.length : Int)))) && (decide (((cutA l ((firstD l).1) ((firstD l).2.1) ((firstD l).2.2) id).length : Int) + ((cutB l ((firstD l).1) ((firstD l).2.1) ((firstD l).2.2) id).length : Int) = (l.length : Int) + 2))) = true → True) ∧ ((((((rightK (cutA l ((firstD l).1) ((firstD l).2.1) ((firstD l).2.2) id)) && (rightK (cutB l ((firstD l).1) ((firstD l).2.1) ((firstD l).2.2) id))) && (decide (((cutA l ((firstD l).1) ((firstD l).2.1) ((firstD l).2.2) id).length : Int) < (l.length : Int)))) && (decide (((cutB l ((firstD l).1) ((firstD l).2.1) ((firstD l).2.2) id).length : Int) < (l.length : Int)))) && (decide (((cutA l ((firstD l).1) ((firstD l).2.1) ((firstD l).2.2) id).length : Int) + ((cutB l ((firstD l).1) ((firstD l).2.1) ((firstD l).2.2) id).length : Int) = (l.length : Int) + 2))) = true → True) ∧ ((((((rightK (cutA l ((firstD l).1) ((firstD l).2.1) ((firstD l).2.2) id)) && (rightK (cutB l ((firstD l).1) ((firstD l).2.1) ((firstD l).2.2) id))) && (decide (((cutA l ((firstD l).1) ((firstD l).2.1) ((firstD l).2.2) id).length : Int) < (l.length : Int)))) && (decide (((cutB l ((firstD l).1) ((firstD l).2.1) ((firstD l).2.2) id).length : Int) < (l.length : Int)))) && (decide (((cutA l ((firstD l).1) ((firstD l).2.1) ((firstD l).2.2) id).length : Int) + ((cutB l ((firstD l).1) ((firstD l).2.1) ((firstD l).2.2) id).length : Int) = (l.length : Int) + 2))) = true → LenOk v300 ((cutA l ((firstD l).1) ((firstD l).2.1) ((firstD l).2.2) id).length : Int)) ∧ ((((((rightK (cutA l ((firstD l).1) ((firstD l).2.1) ((firstD l).2.2) id)) && (rightK (cutB l ((firstD l).1) ((firstD l).2.1) ((firstD l).2.2) id))) && (decide (((cutA l ((firstD l).1) ((firstD l).2.1) ((firstD l).2.2) id).length : Int) < (l.length : Int)))) && (decide (((cutB l ((firstD l).1) ((firstD l).2.1) ((firstD l).2.2) id).length : Int) < (l.length : Int)))) && (decide (((cutA l ((firstD l).1) ((firstD l).2.1) ((firstD l).2.2) id).length : Int) + ((cutB l ((firstD l).1) ((firstD l).2.1) ((firstD l).2.2) id).length : Int) = (l.length : Int) + 2))) = true → InR .i64 (((cutA l ((firstD l).1) ((firstD l).2.1) ((firstD l).2.2) id).length : Int) - 1)) ∧ ((((((rightK (cutA l ((firstD l).1) ((firstD l).2.1) ((firstD l).2.2) id)) && (rightK (cutB l ((firstD l).1) ((firstD l).2.1) ((firstD l).2.2) id))) && (decide (((cutA l ((firstD l).1) ((firstD l).2.1) ((firstD l).2.2) id).length : Int) < (l.length : Int)))) && (decide (((cutB l ((firstD l).1) ((firstD l).2.1) ((firstD l).2.2) id).length : Int) < (l.length : Int)))) && (decide (((cutA l ((firstD l).1) ((firstD l).2.1) ((firstD l).2.2) id).length : Int) + ((cutB l ((firstD l).1) ((firstD l).2.1) ((firstD l).2.2) id).length : Int) = (l.length : Int) + 2))) = true → (Try.prog.info? 92).isSome = true ∧ IdxOk v300 (((cutA l ((firstD l).1) ((firstD l).2.1) ((firstD l).2.2) id).length : Int) - 1)) ∧ ((((((rightK (cutA l ((firstD l).1) ((firstD l).2.1) ((firstD l).2.2) id)) && (rightK (cutB l ((firstD l).1) ((firstD l).2.1) ((firstD l).2.2) id))) && (decide (((cutA l ((firstD l).1) ((firstD l).2.1) ((firstD l).2.2) id).length : Int) < (l.length : Int)))) && (decide (((cutB l ((firstD l).1) ((firstD l).2.1) ((firstD l).2.2) id).length : Int) < (l.length : Int)))) && (decide (((cutA l ((firstD l).1) ((firstD l).2.1) ((firstD l).2.2) id).length : Int) + ((cutB l ((firstD l).1) ((firstD l).2.1) ((firstD l).2.2) id).length : Int) = (l.length : Int) + 2))) = true → (Try.prog.info? 92).isSome = true ∧ RowOk (On w38) (hdB v300) (hdO v300 + (((cutA l ((firstD l).1) ((firstD l).2.1) ((firstD l).2.2) id).length : Int) - 1).toNat * 3) (Try.prog.cellsOf 92) #[.int .i64 (((cutA l ((firstD l).1) ((firstD l).2.1) ((firstD l).2.2) id).getD (((cutA l ((firstD l).1) ((firstD l).2.1) ((firstD l).2.2) id).length : Int) - 1).toNat (0, (0, 0))).1), .int .i64 ((((cutA l ((firstD l).1) ((firstD l).2.1) ((firstD l).2.2) id).getD (((cutA l ((firstD l).1) ((firstD l).2.1) ((firstD l).2.2) id).length : Int) - 1).toNat (0, (0, 0))).2).1), .int .i64 ((((cutA l ((firstD l).1) ((firstD l).2.1) ((firstD l).2.2) id).getD (((cutA l ((firstD l).1) ((firstD l).2.1) ((firstD l).2.2) id).length : Int) - 1).toNat (0, (0, 0))).2).2)]) ∧ ((((((rightK (cutA l ((firstD l).1) ((firstD l).2.1) ((firstD l).2.2) id)) && (rightK (cutB l ((firstD l).1) ((firstD l).2.1) ((firstD l).2.2) id))) && (decide (((cutA l ((firstD l).1) ((firstD l).2.1) ((firstD l).2.2) id).length : Int) < (l.length : Int)))) && (decide (((cutB l ((firstD l).1) ((firstD l).2.1) ((firstD l).2.2) id).length : Int) < (l.length : Int)))) && (decide (((cutA l ((firstD l).1) ((firstD l).2.1) ((firstD l).2.2) id).length : Int) + ((cutB l ((firstD l).1) ((firstD l).2.1) ((firstD l).2.2) id).length : Int) = (l.length : Int) + 2))) = true → True) ∧ ((((((rightK (cutA l ((firstD l).1) ((firstD l).2.1) ((firstD l).2.2) id)) && (rightK (cutB l ((firstD l).1) ((firstD l).2.1) ((firstD l).2.2) id))) && (decide (((cutA l ((firstD l).1) ((firstD l).2.1) ((firstD l).2.2) id).length : Int) < (l.length : Int)))) && (decide (((cutB l ((firstD l).1) ((firstD l).2.1) ((firstD l).2.2) id).length : Int) < (l.length : Int)))) && (decide (((cutA l ((firstD l).1) ((firstD l).2.1) ((firstD l).2.2) id).length : Int) + ((cutB l ((firstD l).1) ((firstD l).2.1) ((firstD l).2.2) id).length : Int) = (l.length : Int) + 2))) = true → True) ∧ ((((((rightK (cutA l ((firstD l).1) ((firstD l).2.1) ((firstD l).2.2) id)) && (rightK (cutB l ((firstD l).1) ((firstD l).2.1) ((firstD l).2.2) id))) && (decide (((cutA l ((firstD l).1) ((firstD l).2.1) ((firstD l).2.2) id).length : Int) < (l.length : Int)))) && (decide (((cutB l ((firstD l).1) ((firstD l).2.1) ((firstD l).2.2) id).length : Int) < (l.length : Int)))) && (decide (((cutA l ((firstD l).1) ((firstD l).2.1) ((firstD l).2.2) id).length : Int) + ((cutB l ((firstD l).1) ((firstD l).2.1) ((firstD l).2.2) id).length : Int) = (l.length : Int) + 2))) = true → LenOk v301 ((cutB l ((firstD l).1) ((firstD l).2.1) ((firstD l).2.2) id).length : Int)) ∧ ((((((rightK (cutA l ((firstD l).1) ((firstD l).2.1) ((firstD l).2.2) id)) && (rightK (cutB l ((firstD l).1) ((firstD l).2.1) ((firstD l).2.2) id))) && (decide (((cutA l ((firstD l).1) ((firstD l).2.1) ((firstD l).2.2) id).length : Int) < (l.length : Int)))) && (decide (((cutB l ((firstD l).1) ((firstD l).2.1) ((firstD l).2.2) id).length : Int) < (l.length : Int)))) && (decide (((cutA l ((firstD l).1) ((firstD l).2.1) ((firstD l).2.2) id).length : Int) + ((cutB l ((firstD l).1) ((firstD l).2.1) ((firstD l).2.2) id).length : Int) = (l.length : Int) + 2))) = true → InR .i64 (((cutB l ((firstD l).1) ((firstD l).2.1) ((firstD l).2.2) id).length : Int) - 1)) ∧ ((((((rightK (cutA l ((firstD l).1) ((firstD l).2.1) ((firstD l).2.2) id)) && (rightK (cutB l ((firstD l).1) ((firstD l).2.1) ((firstD l).2.2) id))) && (decide (((cutA l ((firstD l).1) ((firstD l).2.1) ((firstD l).2.2) id).length : Int) < (l.length : Int)))) && (decide (((cutB l ((firstD l).1) ((firstD l).2.1) ((firstD l).2.2) id).length : Int) < (l.length : Int)))) && (decide (((cutA l ((firstD l).1) ((firstD l).2.1) ((firstD l).2.2) id).length : Int) + ((cutB l ((firstD l).1) ((firstD l).2.1) ((firstD l).2.2) id).length : Int) = (l.length : Int) + 2))) = true → (Try.prog.info? 92).isSome = true ∧ IdxOk v301 (((cutB l ((firstD l).1) ((firstD l).2.1) ((firstD l).2.2) id).length : Int) - 1)) ∧ ((((((rightK (cutA l ((firstD l).1) ((firstD l).2.1) ((firstD l).2.2) id)) && (rightK (cutB l ((firstD l).1) ((firstD l).2.1) ((firstD l).2.2) id))) && (decide (((cutA l ((firstD l).1) ((firstD l).2.1) ((firstD l).2.2) id).length : Int) < (l.length : Int)))) && (decide (((cutB l ((firstD l).1) ((firstD l).2.1) ((firstD l).2.2) id).length : Int) < (l.length : Int)))) && (decide (((cutA l ((firstD l).1) ((firstD l).2.1) ((firstD l).2.2) id).length : Int) + ((cutB l ((firstD l).1) ((firstD l).2.1) ((firstD l).2.2) id).length : Int) = (l.length : Int) + 2))) = true → (Try.prog.info? 92).isSome = true ∧ RowOk (On w38) (hdB v301) (hdO v301 + (((cutB l ((firstD l).1) ((firstD l).2.1) ((firstD l).2.2) id).length : Int) - 1).toNat * 3) (Try.prog.cellsOf 92) #[.int .i64 (((cutB l ((firstD l).1) ((firstD l).2.1) ((firstD l).2.2) id).getD (((cutB l ((firstD l).1) ((firstD l).2.1) ((firstD l).2.2) id).length : Int) - 1).toNat (0, (0, 0))).1), .int .i64 ((((cutB l ((firstD l).1) ((firstD l).2.1) ((firstD l).2.2) id).getD (((cutB l ((firstD l).1) ((firstD l).2.1) ((firstD l).2.2) id).length : Int) - 1).toNat (0, (0, 0))).2).1), .int .i64 ((((cutB l ((firstD l).1) ((firstD l).2.1) ((firstD l).2.2) id).getD (((cutB l ((firstD l).1) ((firstD l).2.1) ((firstD l).2.2) id).length : Int) - 1).toNat (0, (0, 0))).2).2)]) ∧ ((((((rightK (cutA l ((firstD l).1) ((firstD l).2.1) ((firstD l).2.2) id)) && (rightK (cutB l ((firstD l).1) ((firstD l).2.1) ((firstD l).2.2) id))) && (decide (((cutA l ((firstD l).1) ((firstD l).2.1) ((firstD l).2.2) id).length : Int) < (l.length : Int)))) && (decide (((cutB l ((firstD l).1) ((firstD l).2.1) ((firstD l).2.2) id).length : Int) < (l.length : Int)))) && (decide (((cutA l ((firstD l).1) ((firstD l).2.1) ((firstD l).2.2) id).length : Int) + ((cutB l ((firstD l).1) ((firstD l).2.1) ((firstD l).2.2) id).length : Int) = (l.length : Int) + 2))) = true → EqOk Try.prog 92 (.agg #[.int .i64 (((cutA l ((firstD l).1) ((firstD l).2.1) ((firstD l).2.2) id).getD (((cutA l ((firstD l).1) ((firstD l).2.1) ((firstD l).2.2) id).length : Int) - 1).toNat (0, (0, 0))).1), .int .i64 ((((cutA l ((firstD l).1) ((firstD l).2.1) ((firstD l).2.2) id).getD (((cutA l ((firstD l).1) ((firstD l).2.1) ((firstD l).2.2) id).length : Int) - 1).toNat (0, (0, 0))).2).1), .int .i64 ((((cutA l ((firstD l).1) ((firstD l).2.1) ((firstD l).2.2) id).getD (((cutA l ((firstD l).1) ((firstD l).2.1) ((firstD l).2.2) id).length : Int) - 1).toNat (0, (0, 0))).2).2)]) (.agg #[.int .i64 (((cutB l ((firstD l).1) ((firstD l).2.1) ((firstD l).2.2) id).getD (((cutB l ((firstD l).1) ((firstD l).2.1) ((firstD l).2.2) id).length : Int) - 1).toNat (0, (0, 0))).1), .int .i64 ((((cutB l ((firstD l).1) ((firstD l).2.1) ((firstD l).2.2) id).getD (((cutB l ((firstD l).1) ((firstD l).2.1) ((firstD l).2.2) id).length : Int) - 1).toNat (0, (0, 0))).2).1), .int .i64 ((((cutB l ((firstD l).1) ((firstD l).2.1) ((firstD l).2.2) id).getD (((cutB l ((firstD l).1) ((firstD l).2.1) ((firstD l).2.2) id).length : Int) - 1).toNat (0, (0, 0))).2).2)]) ((decide (((cutA l ((firstD l).1) ((firstD l).2.1) ((firstD l).2.2) id).getD (((cutA l ((firstD l).1) ((firstD l).2.1) ((firstD l).2.2) id).length : Int) - 1).toNat (0, (0, 0))).1 = ((cutB l ((firstD l).1) ((firstD l).2.1) ((firstD l).2.2) id).getD (((cutB l ((firstD l).1) ((firstD l).2.1) ((firstD l).2.2) id).length : Int) - 1).toNat (0, (0, 0))).1)) && ((decide ((((cutA l ((firstD l).1) ((firstD l).2.1) ((firstD l).2.2) id).getD (((cutA l ((firstD l).1) ((firstD l).2.1) ((firstD l).2.2) id).length : Int) - 1).toNat (0, (0, 0))).2).1 = (((cutB l ((firstD l).1) ((firstD l).2.1) ((firstD l).2.2) id).getD (((cutB l ((firstD l).1) ((firstD l).2.1) ((firstD l).2.2) id).length : Int) - 1).toNat (0, (0, 0))).2).1)) && (decide ((((cutA l ((firstD l).1) ((firstD l).2.1) ((firstD l).2.2) id).getD (((cutA l ((firstD l).1) ((firstD l).2.1) ((firstD l).2.2) id).length : Int) - 1).toNat (0, (0, 0))).2).2 = (((cutB l ((firstD l).1) ((firstD l).2.1) ((firstD l).2.2) id).getD (((cutB l ((firstD l).1) ((firstD l).2.1) ((firstD l).2.2) id).length : Int) - 1).toNat (0, (0, 0))).2).2)))) ∧ Try.prog.eqGuardType Try.prog.depth 92 = false) ∧ TT ∧ TT ∧ (((((((rightK (cutA l ((firstD l).1) ((firstD l).2.1) ((firstD l).2.2) id)) && (rightK (cutB l ((firstD l).1) ((firstD l).2.1) ((firstD l).2.2) id))) && (decide (((cutA l ((firstD l).1) ((firstD l).2.1) ((firstD l).2.2) id).length : Int) < (l.length : Int)))) && (decide (((cutB l ((firstD l).1) ((firstD l).2.1) ((firstD l).2.2) id).length : Int) < (l.length : Int)))) && (decide (((cutA l ((firstD l).1) ((firstD l).2.1) ((firstD l).2.2) id).length : Int) + ((cutB l ((firstD l).1) ((firstD l).2.1) ((firstD l).2.2) id).length : Int) = (l.length : Int) + 2))) && ((decide (((cutA l ((firstD l).1) ((firstD l).2.1) ((firstD l).2.2) id).getD (((cutA l ((firstD l).1) ((firstD l).2.1) ((firstD l).2.2) id).length : Int) - 1).toNat (0, (0, 0))).1 = ((cutB l ((firstD l).1) ((firstD l).2.1) ((firstD l).2.2) id).getD (((cutB l ((firstD l).1) ((firstD l).2.1) ((firstD l).2.2) id).length : Int) - 1).toNat (0, (0, 0))).1)) && ((decide ((((cutA l ((firstD l).1) ((firstD l).2.1) ((firstD l).2.2) id).getD (((cutA l ((firstD l).1) ((firstD l).2.1) ((firstD l).2.2) id).length : Int) - 1).toNat (0, (0, 0))).2).1 = (((cutB l ((firstD l).1) ((firstD l).2.1) ((firstD l).2.2) id).getD (((cutB l ((firstD l).1) ((firstD l).2.1) ((firstD l).2.2) id).length : Int) - 1).toNat (0, (0, 0))).2).1)) && (decide ((((cutA l ((firstD l).1) ((firstD l).2.1) ((firstD l).2.2) id).getD (((cutA l ((firstD l).1) ((firstD l).2.1) ((firstD l).2.2) id).length : Int) - 1).toNat (0, (0, 0))).2).2 = (((cutB l ((firstD l).1) ((firstD l).2.1) ((firstD l).2.2) id).getD (((cutB l ((firstD l).1) ((firstD l).2.1) ((firstD l).2.2) id).length : Int) - 1).toNat (0, (0, 0))).2).2))))) = true → True) ∧ (((((((rightK (cutA l ((firstD l).1) ((firstD l).2.1) ((firstD l).2.2) id)) && (rightK (cutB l ((firstD l).1) ((firstD l).2.1) ((firstD l).2.2) id))) && (decide (((cutA l ((firstD l).1) ((firstD l).2.1) ((firstD l).2.2) id).length : Int) < (l.length : Int)))) && (decide (((cutB l ((firstD l).1) ((firstD l).2.1) ((firstD l).2.2) id).length : Int) < (l.length : Int)))) && (decide (((cutA l ((firstD l).1) ((firstD l).2.1) ((firstD l).2.2) id).length : Int) + ((cutB l ((firstD l).1) ((firstD l).2.1) ((firstD l).2.2) id).length : Int) = (l.length : Int) + 2))) && ((decide (((cutA l ((firstD l).1) ((firstD l).2.1) ((firstD l).2.2) id).getD (((cutA l ((firstD l).1) ((firstD l).2.1) ((firstD l).2.2) id).length : Int) - 1).toNat (0, (0, 0))).1 = ((cutB l ((firstD l).1) ((firstD l).2.1) ((firstD l).2.2) id).getD (((cutB l ((firstD l).1) ((firstD l).2.1) ((firstD l).2.2) id).length : Int) - 1).toNat (0, (0, 0))).1)) && ((decide ((((cutA l ((firstD l).1) ((firstD l).2.1) ((firstD l).2.2) id).getD (((cutA l ((firstD l).1) ((firstD l).2.1) ((firstD l).2.2) id).length : Int) - 1).toNat (0, (0, 0))).2).1 = (((cutB l ((firstD l).1) ((firstD l).2.1) ((firstD l).2.2) id).getD (((cutB l ((firstD l).1) ((firstD l).2.1) ((firstD l).2.2) id).length : Int) - 1).toNat (0, (0, 0))).2).1)) && (decide ((((cutA l ((firstD l).1) ((firstD l).2.1) ((firstD l).2.2) id).getD (((cutA l ((firstD l).1) ((firstD l).2.1) ((firstD l).2.2) id).length : Int) - 1).toNat (0, (0, 0))).2).2 = (((cutB l ((firstD l).1) ((firstD l).2.1) ((firstD l).2.2) id).getD (((cutB l ((firstD l).1) ((firstD l).2.1) ((firstD l).2.2) id).length : Int) - 1).toNat (0, (0, 0))).2).2))))) = true → True) ∧ (((((((rightK (cutA l ((firstD l).1) ((firstD l).2.1) ((firstD l).2.2) id)) && (rightK (cutB l ((firstD l).1) ((firstD l).2.1) ((firstD l).2.2) id))) && (decide (((cutA l ((firstD l).1) ((firstD l).2.1) ((firstD l).2.2) id).length : Int) < (l.length : Int)))) && (decide (((cutB l ((firstD l).1) ((firstD l).2.1) ((firstD l).2.2) id).length : Int) < (l.length : Int)))) && (decide (((cutA l ((firstD l).1) ((firstD l).2.1) ((firstD l).2.2) id).length : Int) + ((cutB l ((firstD l).1) ((firstD l).2.1) ((firstD l).2.2) id).length : Int) = (l.length : Int) + 2))) && ((decide (((cutA l ((firstD l).1) ((firstD l).2.1) ((firstD l).2.2) id).getD (((cutA l ((firstD l).1) ((firstD l).2.1) ((firstD l).2.2) id).length : Int) - 1).toNat (0, (0, 0))).1 = ((cutB l ((firstD l).1) ((firstD l).2.1) ((firstD l).2.2) id).getD (((cutB l ((firstD l).1) ((firstD l).2.1) ((firstD l).2.2) id).length : Int) - 1).toNat (0, (0, 0))).1)) && ((decide ((((cutA l ((firstD l).1) ((firstD l).2.1) ((firstD l).2.2) id).getD (((cutA l ((firstD l).1) ((firstD l).2.1) ((firstD l).2.2) id).length : Int) - 1).toNat (0, (0, 0))).2).1 = (((cutB l ((firstD l).1) ((firstD l).2.1) ((firstD l).2.2) id).getD (((cutB l ((firstD l).1) ((firstD l).2.1) ((firstD l).2.2) id).length : Int) - 1).toNat (0, (0, 0))).2).1)) && (decide ((((cutA l ((firstD l).1) ((firstD l).2.1) ((firstD l).2.2) id).getD (((cutA l ((firstD l).1) ((firstD l).2.1) ((firstD l).2.2) id).length : Int) - 1).toNat (0, (0, 0))).2).2 = (((cutB l ((firstD l).1) ((firstD l).2.1) ((firstD l).2.2) id).getD (((cutB l ((firstD l).1) ((firstD l).2.1) ((firstD l).2.2) id).length : Int) - 1).toNat (0, (0, 0))).2).2))))) = true → LenOk v300 ((cutA l ((firstD l).1) ((firstD l).2.1) ((firstD l).2.2) id).length : Int)) ∧ (((((((rightK (cutA l ((firstD l).1) ((firstD l).2.1) ((firstD l).2.2) id)) && (rightK (cutB l ((firstD l).1) ((firstD l).2.1) ((firstD l).2.2) id))) && (decide (((cutA l ((firstD l).1) ((firstD l).2.1) ((firstD l).2.2) id).length : Int) < (l.length : Int)))) && (decide (((cutB l ((firstD l).1) ((firstD l).2.1) ((firstD l).2.2) id).length : Int) < (l.length : Int)))) && (decide (((cutA l ((firstD l).1) ((firstD l).2.1) ((firstD l).2.2) id).length : Int) + ((cutB l ((firstD l).1) ((firstD l).2.1) ((firstD l).2.2) id).length : Int) = (l.length : Int) + 2))) && ((decide (((cutA l ((firstD l).1) ((firstD l).2.1) ((firstD l).2.2) id).getD (((cutA l ((firstD l).1) ((firstD l).2.1) ((firstD l).2.2) id).length : Int) - 1).toNat (0, (0, 0))).1 = ((cutB l ((firstD l).1) ((firstD l).2.1) ((firstD l).2.2) id).getD (((cutB l ((firstD l).1) ((firstD l).2.1) ((firstD l).2.2) id).length : Int) - 1).toNat (0, (0, 0))).1)) && ((decide ((((cutA l ((firstD l).1) ((firstD l).2.1) ((firstD l).2.2) id).getD (((cutA l ((firstD l).1) ((firstD l).2.1) ((firstD l).2.2) id).length : Int) - 1).toNat (0, (0, 0))).2).1 = (((cutB l ((firstD l).1) ((firstD l).2.1) ((firstD l).2.2) id).getD (((cutB l ((firstD l).1) ((firstD l).2.1) ((firstD l).2.2) id).length : Int) - 1).toNat (0, (0, 0))).2).1)) && (decide ((((cutA l ((firstD l).1) ((firstD l).2.1) ((firstD l).2.2) id).getD (((cutA l ((firstD l).1) ((firstD l).2.1) ((firstD l).2.2) id).length : Int) - 1).toNat (0, (0, 0))).2).2 = (((cutB l ((firstD l).1) ((firstD l).2.1) ((firstD l).2.2) id).getD (((cutB l ((firstD l).1) ((firstD l).2.1) ((firstD l).2.2) id).length : Int) - 1).toNat (0, (0, 0))).2).2))))) = true → InR .i64 (((cutA l ((firstD l).1) ((firstD l).2.1) ((firstD l).2.2) id).length : Int) - 1)) ∧ (((((((rightK (cutA l ((firstD l).1) ((firstD l).2.1) ((firstD l).2.2) id)) && (rightK (cutB l ((firstD l).1) ((firstD l).2.1) ((firstD l).2.2) id))) && (decide (((cutA l ((firstD l).1) ((firstD l).2.1) ((firstD l).2.2) id).length : Int) < (l.length : Int)))) && (decide (((cutB l ((firstD l).1) ((firstD l).2.1) ((firstD l).2.2) id).length : Int) < (l.length : Int)))) && (decide (((cutA l ((firstD l).1) ((firstD l).2.1) ((firstD l).2.2) id).length : Int) + ((cutB l ((firstD l).1) ((firstD l).2.1) ((firstD l).2.2) id).length : Int) = (l.length : Int) + 2))) && ((decide (((cutA l ((firstD l).1) ((firstD l).2.1) ((firstD l).2.2) id).getD (((cutA l ((firstD l).1) ((firstD l).2.1) ((firstD l).2.2) id).length : Int) - 1).toNat (0, (0, 0))).1 = ((cutB l ((firstD l).1) ((firstD l).2.1) ((firstD l).2.2) id).getD (((cutB l ((firstD l).1) ((firstD l).2.1) ((firstD l).2.2) id).length : Int) - 1).toNat (0, (0, 0))).1)) && ((decide ((((cutA l ((firstD l).1) ((firstD l).2.1) ((firstD l).2.2) id).getD (((cutA l ((firstD l).1) ((firstD l).2.1) ((firstD l).2.2) id).length : Int) - 1).toNat (0, (0, 0))).2).1 = (((cutB l ((firstD l).1) ((firstD l).2.1) ((firstD l).2.2) id).getD (((cutB l ((firstD l).1) ((firstD l).2.1) ((firstD l).2.2) id).length : Int) - 1).toNat (0, (0, 0))).2).1)) && (decide ((((cutA l ((firstD l).1) ((firstD l).2.1) ((firstD l).2.2) id).getD (((cutA l ((firstD l).1) ((firstD l).2.1) ((firstD l).2.2) id).length : Int) - 1).toNat (0, (0, 0))).2).2 = (((cutB l ((firstD l).1) ((firstD l).2.1) ((firstD l).2.2) id).getD (((cutB l ((firstD l).1) ((firstD l).2.1) ((firstD l).2.2) id).length : Int) - 1).toNat (0, (0, 0))).2).2))))) = true → (Try.prog.info? 92).isSome = true ∧ IdxOk v300 (((cutA l ((firstD l).1) ((firstD l).2.1) ((firstD l).2.2) id).length : Int) - 1)) ∧ (((((((rightK (cutA l ((firstD l).1) ((firstD l).2.1) ((firstD l).2.2) id)) && (rightK (cutB l ((firstD l).1) ((firstD l).2.1) ((firstD l).2.2) id))) && (decide (((cutA l ((firstD l).1) ((firstD l).2.1) ((firstD l).2.2) id).length : Int) < (l.length : Int)))) && (decide (((cutB l ((firstD l).1) ((firstD l).2.1) ((firstD l).2.2) id).length : Int) < (l.length : Int)))) && (decide (((cutA l ((firstD l).1) ((firstD l).2.1) ((firstD l).2.2) id).length : Int) + ((cutB l ((firstD l).1) ((firstD l).2.1) ((firstD l).2.2) id).length : Int) = (l.length : Int) + 2))) && ((decide (((cutA l ((firstD l).1) ((firstD l).2.1) ((firstD l).2.2) id).getD (((cutA l ((firstD l).1) ((firstD l).2.1) ((firstD l).2.2) id).length : Int) - 1).toNat (0, (0, 0))).1 = ((cutB l ((firstD l).1) ((firstD l).2.1) ((firstD l).2.2) id).getD (((cutB l ((firstD l).1) ((firstD l).2.1) ((firstD l).2.2) id).length : Int) - 1).toNat (0, (0, 0))).1)) && ((decide ((((cutA l ((firstD l).1) ((firstD l).2.1) ((firstD l).2.2) id).getD (((cutA l ((firstD l).1) ((firstD l).2.1) ((firstD l).2.2) id).length : Int) - 1).toNat (0, (0, 0))).2).1 = (((cutB l ((firstD l).1) ((firstD l).2.1) ((firstD l).2.2) id).getD (((cutB l ((firstD l).1) ((firstD l).2.1) ((firstD l).2.2) id).length : Int) - 1).toNat (0, (0, 0))).2).1)) && (decide ((((cutA l ((firstD l).1) ((firstD l).2.1) ((firstD l).2.2) id).getD (((cutA l ((firstD l).1) ((firstD l).2.1) ((firstD l).2.2) id).length : Int) - 1).toNat (0, (0, 0))).2).2 = (((cutB l ((firstD l).1) ((firstD l).2.1) ((firstD l).2.2) id).getD (((cutB l ((firstD l).1) ((firstD l).2.1) ((firstD l).2.2) id).length : Int) - 1).toNat (0, (0, 0))).2).2))))) = true → 0 < Try.prog.cellsOf 3) ∧ (((((((rightK (cutA l ((firstD l).1) ((firstD l).2.1) ((firstD l).2.2) id)) && (rightK (cutB l ((firstD l).1) ((firstD l).2.1) ((firstD l).2.2) id))) && (decide (((cutA l ((firstD l).1) ((firstD l).2.1) ((firstD l).2.2) id).length : Int) < (l.length : Int)))) && (decide (((cutB l ((firstD l).1) ((firstD l).2.1) ((firstD l).2.2) id).length : Int) < (l.length : Int)))) && (decide (((cutA l ((firstD l).1) ((firstD l).2.1) ((firstD l).2.2) id).length : Int) + ((cutB l ((firstD l).1) ((firstD l).2.1) ((firstD l).2.2) id).length : Int) = (l.length : Int) + 2))) && ((decide (((cutA l ((firstD l).1) ((firstD l).2.1) ((firstD l).2.2) id).getD (((cutA l ((firstD l).1) ((firstD l).2.1) ((firstD l).2.2) id).length : Int) - 1).toNat (0, (0, 0))).1 = ((cutB l ((firstD l).1) ((firstD l).2.1) ((firstD l).2.2) id).getD (((cutB l ((firstD l).1) ((firstD l).2.1) ((firstD l).2.2) id).length : Int) - 1).toNat (0, (0, 0))).1)) && ((decide ((((cutA l ((firstD l).1) ((firstD l).2.1) ((firstD l).2.2) id).getD (((cutA l ((firstD l).1) ((firstD l).2.1) ((firstD l).2.2) id).length : Int) - 1).toNat (0, (0, 0))).2).1 = (((cutB l ((firstD l).1) ((firstD l).2.1) ((firstD l).2.2) id).getD (((cutB l ((firstD l).1) ((firstD l).2.1) ((firstD l).2.2) id).length : Int) - 1).toNat (0, (0, 0))).2).1)) && (decide ((((cutA l ((firstD l).1) ((firstD l).2.1) ((firstD l).2.2) id).getD (((cutA l ((firstD l).1) ((firstD l).2.1) ((firstD l).2.2) id).length : Int) - 1).toNat (0, (0, 0))).2).2 = (((cutB l ((firstD l).1) ((firstD l).2.1) ((firstD l).2.2) id).getD (((cutB l ((firstD l).1) ((firstD l).2.1) ((firstD l).2.2) id).length : Int) - 1).toNat (0, (0, 0))).2).2))))) = true → CellOk (On w38) (hdB v300) (hdO v300 + (((cutA l ((firstD l).1) ((firstD l).2.1) ((firstD l).2.2) id).length : Int) - 1).toNat * 3 + 2) (.int .i64 ((((cutA l ((firstD l).1) ((firstD l).2.1) ((firstD l).2.2) id).getD (((cutA l ((firstD l).1) ((firstD l).2.1) ((firstD l).2.2) id).length : Int) - 1).toNat (0, (0, 0))).2).2))) ∧ (((((((rightK (cutA l ((firstD l).1) ((firstD l).2.1) ((firstD l).2.2) id)) && (rightK (cutB l ((firstD l).1) ((firstD l).2.1) ((firstD l).2.2) id))) && (decide (((cutA l ((firstD l).1) ((firstD l).2.1) ((firstD l).2.2) id).length : Int) < (l.length : Int)))) && (decide (((cutB l ((firstD l).1) ((firstD l).2.1) ((firstD l).2.2) id).length : Int) < (l.length : Int)))) && (decide (((cutA l ((firstD l).1) ((firstD l).2.1) ((firstD l).2.2) id).length : Int) + ((cutB l ((firstD l).1) ((firstD l).2.1) ((firstD l).2.2) id).length : Int) = (l.length : Int) + 2))) && ((decide (((cutA l ((firstD l).1) ((firstD l).2.1) ((firstD l).2.2) id).getD (((cutA l ((firstD l).1) ((firstD l).2.1) ((firstD l).2.2) id).length : Int) - 1).toNat (0, (0, 0))).1 = ((cutB l ((firstD l).1) ((firstD l).2.1) ((firstD l).2.2) id).getD (((cutB l ((firstD l).1) ((firstD l).2.1) ((firstD l).2.2) id).length : Int) - 1).toNat (0, (0, 0))).1)) && ((decide ((((cutA l ((firstD l).1) ((firstD l).2.1) ((firstD l).2.2) id).getD (((cutA l ((firstD l).1) ((firstD l).2.1) ((firstD l).2.2) id).length : Int) - 1).toNat (0, (0, 0))).2).1 = (((cutB l ((firstD l).1) ((firstD l).2.1) ((firstD l).2.2) id).getD (((cutB l ((firstD l).1) ((firstD l).2.1) ((firstD l).2.2) id).length : Int) - 1).toNat (0, (0, 0))).2).1)) && (decide ((((cutA l ((firstD l).1) ((firstD l).2.1) ((firstD l).2.2) id).getD (((cutA l ((firstD l).1) ((firstD l).2.1) ((firstD l).2.2) id).length : Int) - 1).toNat (0, (0, 0))).2).2 = (((cutB l ((firstD l).1) ((firstD l).2.1) ((firstD l).2.2) id).getD (((cutB l ((firstD l).1) ((firstD l).2.1) ((firstD l).2.2) id).length : Int) - 1).toNat (0, (0, 0))).2).2))))) = true → True) ∧ (((((((rightK (cutA l ((firstD l).1) ((firstD l).2.1) ((firstD l).2.2) id)) && (rightK (cutB l ((firstD l).1) ((firstD l).2.1) ((firstD l).2.2) id))) && (decide (((cutA l ((firstD l).1) ((firstD l).2.1) ((firstD l).2.2) id).length : Int) < (l.length : Int)))) && (decide (((cutB l ((firstD l).1) ((firstD l).2.1) ((firstD l).2.2) id).length : Int) < (l.length : Int)))) && (decide (((cutA l ((firstD l).1) ((firstD l).2.1) ((firstD l).2.2) id).length : Int) + ((cutB l ((firstD l).1) ((firstD l).2.1) ((firstD l).2.2) id).length : Int) = (l.length : Int) + 2))) && ((decide (((cutA l ((firstD l).1) ((firstD l).2.1) ((firstD l).2.2) id).getD (((cutA l ((firstD l).1) ((firstD l).2.1) ((firstD l).2.2) id).length : Int) - 1).toNat (0, (0, 0))).1 = ((cutB l ((firstD l).1) ((firstD l).2.1) ((firstD l).2.2) id).getD (((cutB l ((firstD l).1) ((firstD l).2.1) ((firstD l).2.2) id).length : Int) - 1).toNat (0, (0, 0))).1)) && ((decide ((((cutA l ((firstD l).1) ((firstD l).2.1) ((firstD l).2.2) id).getD (((cutA l ((firstD l).1) ((firstD l).2.1) ((firstD l).2.2) id).length : Int) - 1).toNat (0, (0, 0))).2).1 = (((cutB l ((firstD l).1) ((firstD l).2.1) ((firstD l).2.2) id).getD (((cutB l ((firstD l).1) ((firstD l).2.1) ((firstD l).2.2) id).length : Int) - 1).toNat (0, (0, 0))).2).1)) && (decide ((((cutA l ((firstD l).1) ((firstD l).2.1) ((firstD l).2.2) id).getD (((cutA l ((firstD l).1) ((firstD l).2.1) ((firstD l).2.2) id).length : Int) - 1).toNat (0, (0, 0))).2).2 = (((cutB l ((firstD l).1) ((firstD l).2.1) ((firstD l).2.2) id).getD (((cutB l ((firstD l).1) ((firstD l).2.1) ((firstD l).2.2) id).length : Int) - 1).toNat (0, (0, 0))).2).2))))) = true → True) ∧ TT ∧ TT ∧ True) hA H ⟨tv, ⟨callable_of, callOk_of fun w hw => by exact pright_any v300 (cutA l ((firstD l).1) ((firstD l).2.1) ((firstD l).2.2) id) w (((H.on hw).get 1 rfl)) (by omega) hwA⟩, tv, fun _ => tv, fun hg0 => by replace hg0 := hg0; exact ⟨callable_of, callOk_of fun w hw => by exact pright_any v301 (cutB l ((firstD l).1) ((firstD l).2.1) ((firstD l).2.2) id) w (((H.on hw).get 0 rfl)) (by omega) hwB⟩, tv, tv, fun _ => tv, fun _ => by exact len_ok (H.get 1 rfl), fun _ => tv, fun _ => by exact len_ok (H.arg hL), fun _ => tv, tv, tv, fun _ => tv, fun _ => by exact len_ok (H.get 0 rfl), fun _ => tv, fun _ => by exact len_ok (H.arg hL), fun _ => tv, tv, tv, fun _ => tv, fun _ => by exact len_ok (H.get 1 rfl), fun _ => tv, fun _ => by exact len_ok (H.get 0 rfl), fun hg0 => by replace hg0 := (⟨(⟨(⟨(aT ((aT ((aT hg0).1)).1)).1, (aT ((aT ((aT hg0).1)).1)).2⟩ : _ ∧ _), of_decide_eq_true ((aT ((aT hg0).1)).2)⟩ : _ ∧ _), of_decide_eq_true ((aT hg0).2)⟩ : _ ∧ _); exact ⟨by omega, by omega⟩, fun _ => tv, fun _ => by exact len_ok (H.arg hL), fun hg0 => by replace hg0 := (⟨(⟨(⟨(aT ((aT ((aT hg0).1)).1)).1, (aT ((aT ((aT hg0).1)).1)).2⟩ : _ ∧ _), of_decide_eq_true ((aT ((aT hg0).1)).2)⟩ : _ ∧ _), of_decide_eq_true ((aT hg0).2)⟩ : _ ∧ _); exact ⟨by omega, by omega⟩, fun _ => tv, tv, tv, fun _ => tv, fun _ => tv, fun _ => by exact len_ok (H.get 1 rfl), fun hg0 => by replace hg0 := (⟨(⟨(⟨(⟨(aT ((aT ((aT ((aT hg0).1)).1)).1)).1, (aT ((aT ((aT ((aT hg0).1)).1)).1)).2⟩ : _ ∧ _), of_decide_eq_true ((aT ((aT ((aT hg0).1)).1)).2)⟩ : _ ∧ _), of_decide_eq_true ((aT ((aT hg0).1)).2)⟩ : _ ∧ _), of_decide_eq_true ((aT hg0).2)⟩ : _ ∧ _); exact ⟨by omega, by omega⟩, fun hg0 => by replace hg0 := (⟨(⟨(⟨(⟨(aT ((aT ((aT ((aT hg0).1)).1)).1)).1, (aT ((aT ((aT ((aT hg0).1)).1)).1)).2⟩ : _ ∧ _), of_decide_eq_true ((aT ((aT ((aT hg0).1)).1)).2)⟩ : _ ∧ _), of_decide_eq_true ((aT ((aT hg0).1)).2)⟩ : _ ∧ _), of_decide_eq_true ((aT hg0).2)⟩ : _ ∧ _); exact ⟨by kernel_rfl, by exact idx_ok (H.get 1 rfl) (by omega) (by omega)⟩, fun hg0 => by replace hg0 := (⟨(⟨(⟨(⟨(aT ((aT ((aT ((aT hg0).1)).1)).1)).1, (aT ((aT ((aT ((aT hg0).1)).1)).1)).2⟩ : _ ∧ _), of_decide_eq_true ((aT ((aT ((aT hg0).1)).1)).2)⟩ : _ ∧ _), of_decide_eq_true ((aT ((aT hg0).1)).2)⟩ : _ ∧ _), of_decide_eq_true ((aT hg0).2)⟩ : _ ∧ _); exact ⟨by kernel_rfl, by exact row_flat (i := ((cutA l ((firstD l).1) ((firstD l).2.1) ((firstD l).2.2) id).length : Int) - 1) (H.get 1 rfl) (by omega) (by omega) (0, (0, 0))⟩, fun _ => tv, fun _ => tv, fun _ => by exact len_ok (H.get 0 rfl), fun hg0 => by replace hg0 := (⟨(⟨(⟨(⟨(aT ((aT ((aT ((aT hg0).1)).1)).1)).1, (aT ((aT ((aT ((aT hg0).1)).1)).1)).2⟩ : _ ∧ _), of_decide_eq_true ((aT ((aT ((aT hg0).1)).1)).2)⟩ : _ ∧ _), of_decide_eq_true ((aT ((aT hg0).1)).2)⟩ : _ ∧ _), of_decide_eq_true ((aT hg0).2)⟩ : _ ∧ _); exact ⟨by omega, by omega⟩, fun hg0 => by replace hg0 := (⟨(⟨(⟨(⟨(aT ((aT ((aT ((aT hg0).1)).1)).1)).1, (aT ((aT ((aT ((aT hg0).1)).1)).1)).2⟩ : _ ∧ _), of_decide_eq_true ((aT ((aT ((aT hg0).1)).1)).2)⟩ : _ ∧ _), of_decide_eq_true ((aT ((aT hg0).1)).2)⟩ : _ ∧ _), of_decide_eq_true ((aT hg0).2)⟩ : _ ∧ _); exact ⟨by kernel_rfl, by exact idx_ok (H.get 0 rfl) (by omega) (by omega)⟩, fun hg0 => by replace hg0 := (⟨(⟨(⟨(⟨(aT ((aT ((aT ((aT hg0).1)).1)).1)).1, (aT ((aT ((aT ((aT hg0).1)).1)).1)).2⟩ : _ ∧ _), of_decide_eq_true ((aT ((aT ((aT hg0).1)).1)).2)⟩ : _ ∧ _), of_decide_eq_true ((aT ((aT hg0).1)).2)⟩ : _ ∧ _), of_decide_eq_true ((aT hg0).2)⟩ : _ ∧ _); exact ⟨by kernel_rfl, by exact row_flat (i := ((cutB l ((firstD l).1) ((firstD l).2.1) ((firstD l).2.2) id).length : Int) - 1) (H.get 0 rfl) (by omega) (by omega) (0, (0, 0))⟩, fun _ => ⟨Try.eq92 _ _ _ _ _ _, by kernel_rfl⟩, tv, tv, fun _ => tv, fun _ => tv, fun _ => by exact len_ok (H.get 1 rfl), fun hg0 => by replace hg0 := (⟨(⟨(⟨(⟨(⟨(aT ((aT ((aT ((aT ((aT hg0).1)).1)).1)).1)).1, (aT ((aT ((aT ((aT ((aT hg0).1)).1)).1)).1)).2⟩ : _ ∧ _), of_decide_eq_true ((aT ((aT ((aT ((aT hg0).1)).1)).1)).2)⟩ : _ ∧ _), of_decide_eq_true ((aT ((aT ((aT hg0).1)).1)).2)⟩ : _ ∧ _), of_decide_eq_true ((aT ((aT hg0).1)).2)⟩ : _ ∧ _), (⟨of_decide_eq_true ((aT ((aT hg0).2)).1), (⟨of_decide_eq_true ((aT ((aT ((aT hg0).2)).2)).1), of_decide_eq_true ((aT ((aT ((aT hg0).2)).2)).2)⟩ : _ ∧ _)⟩ : _ ∧ _)⟩ : _ ∧ _); exact ⟨by omega, by omega⟩, fun hg0 => by replace hg0 := (⟨(⟨(⟨(⟨(⟨(aT ((aT ((aT ((aT ((aT hg0).1)).1)).1)).1)).1, (aT ((aT ((aT ((aT ((aT hg0).1)).1)).1)).1)).2⟩ : _ ∧ _), of_decide_eq_true ((aT ((aT ((aT ((aT hg0).1)).1)).1)).2)⟩ : _ ∧ _), of_decide_eq_true ((aT ((aT ((aT hg0).1)).1)).2)⟩ : _ ∧ _), of_decide_eq_true ((aT ((aT hg0).1)).2)⟩ : _ ∧ _), (⟨of_decide_eq_true ((aT ((aT hg0).2)).1), (⟨of_decide_eq_true ((aT ((aT ((aT hg0).2)).2)).1), of_decide_eq_true ((aT ((aT ((aT hg0).2)).2)).2)⟩ : _ ∧ _)⟩ : _ ∧ _)⟩ : _ ∧ _); exact ⟨by kernel_rfl, by exact idx_ok (H.get 1 rfl) (by omega) (by omega)⟩, fun _ => by decide +kernel, fun hg0 => by replace hg0 := (⟨(⟨(⟨(⟨(⟨(aT ((aT ((aT ((aT ((aT hg0).1)).1)).1)).1)).1, (aT ((aT ((aT ((aT ((aT hg0).1)).1)).1)).1)).2⟩ : _ ∧ _), of_decide_eq_true ((aT ((aT ((aT ((aT hg0).1)).1)).1)).2)⟩ : _ ∧ _), of_decide_eq_true ((aT ((aT ((aT hg0).1)).1)).2)⟩ : _ ∧ _), of_decide_eq_true ((aT ((aT hg0).1)).2)⟩ : _ ∧ _), (⟨of_decide_eq_true ((aT ((aT hg0).2)).1), (⟨of_decide_eq_true ((aT ((aT ((aT hg0).2)).2)).1), of_decide_eq_true ((aT ((aT ((aT hg0).2)).2)).2)⟩ : _ ∧ _)⟩ : _ ∧ _)⟩ : _ ∧ _); exact by exact cell_flat (i := ((cutA l ((firstD l).1) ((firstD l).2.1) ((firstD l).2.2) id).length : Int) - 1) (H.get 1 rfl) (by omega) (by omega) (0, (0, 0)) 2, fun _ => tv, fun _ => tv, tv, tv, tv⟩ fun a w43 hA H hG => ?_
 refine hK42 _ _ ?_
 refine go_ret_ ?_
 refine ret_one 4 (.bool (((((((rightK (cutA l ((firstD l).1) ((firstD l).2.1) ((firstD l).2.2) id)) && (rightK (cutB l ((firstD l).1) ((firstD l).2.1) ((firstD l).2.2) id))) && (decide (((cutA l ((firstD l).1) ((firstD l).2.1) ((firstD l).2.2) id).length : Int) < (l.length : Int)))) && (decide (((cutB l ((firstD l).1) ((firstD l).2.1) ((firstD l).2.2) id).length : Int) < (l.length : Int)))) && (decide (((cutA l ((firstD l).1) ((firstD l).2.1) ((firstD l).2.2) id).length : Int) + ((cutB l ((firstD l).1) ((firstD l).2.1) ((firstD l).2.2) id).length : Int) = (l.length : Int) + 2))) && ((decide (((cutA l ((firstD l).1) ((firstD l).2.1) ((firstD l).2.2) id).getD (((cutA l ((firstD l).1) ((firstD l).2.1) ((firstD l).2.2) id).length : Int) - 1).toNat (0, (0, 0))).1 = ((cutB l ((firstD l).1) ((firstD l).2.1) ((firstD l).2.2) id).getD (((cutB l ((firstD l).1) ((firstD l).2.1) ((firstD l).2.2) id).length : Int) - 1).toNat (0, (0, 0))).1)) && ((decide ((((cutA l ((firstD l).1) ((firstD l).2.1) ((firstD l).2.2) id).getD (((cutA l ((firstD l).1) ((firstD l).2.1) ((firstD l).2.2) id).length : Int) - 1).toNat (0, (0, 0))).2).1 = (((cutB l ((firstD l).1) ((firstD l).2.1) ((firstD l).2.2) id).getD (((cutB l ((firstD l).1) ((firstD l).2.1) ((firstD l).2.2) id).length : Int) - 1).toNat (0, (0, 0))).2).1)) && (decide ((((cutA l ((firstD l).1) ((firstD l).2.1) ((firstD l).2.2) id).getD (((cutA l ((firstD l).1) ((firstD l).2.1) ((firstD l).2.2) id).length : Int) - 1).toNat (0, (0, 0))).2).2 = (((cutB l ((firstD l).1) ((firstD l).2.1) ((firstD l).2.2) id).getD (((cutB l ((firstD l).1) ((firstD l).2.1) ((firstD l).2.2) id).length : Int) - 1).toNat (0, (0, 0))).2).2))))) && (decide ((((cutA l ((firstD l).1) ((firstD l).2.1) ((firstD l).2.2) id).getD (((cutA l ((firstD l).1) ((firstD l).2.1) ((firstD l).2.2) id).length : Int) - 1).toNat (0, (0, 0))).2).2 = id)))) hA ?_
 exact ans_b' (by rw [kA, kB, ga _ rfl, gb _ rfl]; simp; omega) H.below
end Go.Proofs.Ytahonnlgkmimlaa
