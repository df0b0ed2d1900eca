/-
 Texts joined by program: WalkB3, WalkB4, WalkB5, WalkB6, WalkB9, WalkP4, WalkP5, EngU, PairC.
-/
import Derived.Test.YtahonnlgkmimlaaProg
import Derived.Lib.SliceRun
import Derived.Test.YtahonnlgkmimlaaJPairCuts4
set_option linter.unusedSimpArgs false
set_option linter.unusedVariables false
set_option maxRecDepth 100000
set_option maxHeartbeats 8000000
namespace Go.Proofs.Ytahonnlgkmimlaa
open Go.RowKit
theorem visit_step (n : Int) (ve : Value) (E : List (Int × Int)) (L : List Int) (vd : Value) (DL : List (List Int)) (fb mb lb pb : Nat) (h : Nat) (o : Orig) (S : Stab) (s : Deep.St) (ev : Value) (ins : List (Int × Value × List Int)) (tl : List Res) (s' : Deep.St) (v via : Int) (w : World) (hr : rightE n E = 0) (hL : risesP L (E.length : Int)) (hE : Rd (· < o.w.heap.size) o.w ve E) (hDL : ∀ x, 0 ≤ x → x < n → DL.getD x.toNat [] = dartsL E L x) (hDLn : (DL.length : Int) = n) (ih : ∀ (w : World) (S : Stab) (s s' : Deep.St) (v via : Int) (ev : Value) (ins : List (Int × Value × List Int)) (tl : List Res), Deep.Visit (dartsL E L) (headE E) h v via s s' → Deep.Bd s' → 0 ≤ s.cnt → 0 ≤ v → v < n → Fr o w S (finR n ve vd DL fb mb lb pb s ev ins tl) → insOf ins = s.ins → Calls Try.prog 102 [.pointer (some ⟨fb, 0, none⟩), .int .i64 v, .int .i64 via].toArray w (FinQ n ve vd DL fb mb lb pb s' tl o w)) (hv : Deep.Visit (dartsL E L) (headE E) (h + 1) v via s s') (hb : Deep.Bd s') (hc0 : 0 ≤ s.cnt) (hv0 : 0 ≤ v) (hv1 : v < n) (hH : Fr o w S (finR n ve vd DL fb mb lb pb s ev ins tl)) (hi : insOf ins = s.ins) :
 Calls Try.prog 102 [.pointer (some ⟨fb, 0, none⟩), .int .i64 v, .int .i64 via].toArray w (FinQ n ve vd DL fb mb lb pb s' tl o w) := by
 have hr9 := rightE_0 hr
 have hsb := (Deep.visit_bd (h + 1) _ _ _ _ hv hb).cnt
 refine enter Try.f102 182 Try.func102 fun a hA => ?_
 replace hA := env_sub [(0, pv fb), (1, iv v), (2, iv via)] hA
 have H := hH
 refine go_seq fun K1 hK1 => ?_
 refine region_list ?_
 refine q_list 0 7 [(13, iv s.cnt)] [(0, pv fb), (1, iv v), (2, iv via), (14, iv (s.cnt + 1)), (16, .pointer (some ⟨fb, 0 + 5, none⟩))] (TT ∧ TT ∧ (0 < Try.prog.cellsOf 3) ∧ (CellOk (On w) fb (0 + 5) (.int .i64 s.cnt)) ∧ (InR .i64 (s.cnt + 1)) ∧ TT ∧ (0 < Try.prog.cellsOf 3) ∧ True) hA H ⟨tv, tv, by decide +kernel, by exact box_cell H 0 rfl 5, ⟨by omega, by omega⟩, tv, by decide +kernel, tv⟩ fun a w2 hA H hG => ?_
 refine list_at 7 ?_; refine q_store 7 3 (.tmp 16) (.tmp 14) 0 fb (0 + 5) 106 [.int .i64 n, ve, vd, (.slice (some ⟨mb, 0, none⟩) n.toNat n.toNat), (.slice (some ⟨lb, 0, none⟩) n.toNat n.toNat), .int .i64 s.cnt, ev, (.map (some pb))] [.int .i64 (s.cnt + 1)] [.int .i64 n, ve, vd, (.slice (some ⟨mb, 0, none⟩) n.toNat n.toNat), (.slice (some ⟨lb, 0, none⟩) n.toNat n.toNat), .int .i64 (s.cnt + 1), ev, (.map (some pb))] (.int .i64 (s.cnt + 1)) [(0, pv fb), (1, iv v), (2, iv via)] hA H rfl rfl (Nat.le_of_ble_eq_true (by kernel_rfl)) rfl (fun v hv => by simp only [List.mem_cons, List.not_mem_nil, or_false] at hv; rcases hv with rfl; exact rfl) fun a w3 H hA hG => ?_
 replace H : Fr _ _ _ (.box fb 106 [.int .i64 n, ve, vd, (.slice (some ⟨mb, 0, none⟩) n.toNat n.toNat), (.slice (some ⟨lb, 0, none⟩) n.toNat n.toNat), .int .i64 (s.cnt + 1), ev, (.map (some pb))] :: .box mb 3 (arrV n fun j => .int .i64 (s.met j)) :: .box lb 3 (arrV n fun j => .int .i64 (s.low j)) :: .row 3 ev s.stk :: mapR Try.prog 3 pb ins :: .ro vd DL :: tl) := H
 refine list_end ?_
 refine hK1 _ _ ?_
 refine go_seq fun K4 hK4 => ?_
 have H0 := H
 have hM0 := H0.keeps (some mb) (.inr ⟨_, List.mem_of_getElem? (i := 1) rfl, rfl⟩)
 refine region_mix (But w3 (some mb)) [0, 1, 2, 3, 4, 5, 6, 7, 8, 9, 10, 11, 12, 13, 14, 15, 16, 17, 18, 19] 22 ?_
 replace H := H.drawn; have hD := But.drew w3 (some mb)
 generalize ({ w3 with drawn := w3.drawn + 1 } : World) = w5 at H hD ⊢
 refine m_take (n := 3) [0, 1, 2, 3, 4, 5, 6, 7, 8, 9, 10, 11, 12, 13, 14, 15, 16, 17, 18] #[true, true, true, true, true, true, true, true, true, true, true, true, true, true, true, true, true, true, true, false, false, false] [(20, (.slice (some ⟨mb, 0, none⟩) n.toNat n.toNat)), (25, (.slice (some ⟨lb, 0, none⟩) n.toNat n.toNat)), (30, iv (s.cnt + 1)), (34, iv (s.cnt + 1))] [(0, pv fb), (1, iv v), (2, iv via), (25, (.slice (some ⟨lb, 0, none⟩) n.toNat n.toNat)), (26, iv v), (30, iv (s.cnt + 1)), (34, iv (s.cnt + 1)), (35, .pointer (some ⟨mb, 0 + v.toNat * 1, none⟩))] (TT ∧ TT ∧ (0 < Try.prog.cellsOf 27) ∧ (CellOk (But w3 (some mb)) fb (0 + 3) ((.slice (some ⟨mb, 0, none⟩) n.toNat n.toNat))) ∧ TT ∧ TT ∧ TT ∧ (0 < Try.prog.cellsOf 27) ∧ (CellOk (But w3 (some mb)) fb (0 + 4) ((.slice (some ⟨lb, 0, none⟩) n.toNat n.toNat))) ∧ TT ∧ TT ∧ TT ∧ (0 < Try.prog.cellsOf 3) ∧ (CellOk (But w3 (some mb)) fb (0 + 5) (.int .i64 (s.cnt + 1))) ∧ TT ∧ TT ∧ (0 < Try.prog.cellsOf 3) ∧ (CellOk (But w3 (some mb)) fb (0 + 5) (.int .i64 (s.cnt + 1))) ∧ ((Try.prog.info? 3).isSome = true ∧ IdxOk (.slice (some ⟨mb, 0, none⟩) n.toNat n.toNat) v) ∧ True) hA hD ⟨tv, tv, by decide +kernel, by exact box_cellC (box_atC H0 (some mb) 0 rfl (H0.apart 0 1 (by decide) rfl rfl rfl)) 3, tv, tv, tv, by decide +kernel, by exact box_cellC (box_atC H0 (some mb) 0 rfl (H0.apart 0 1 (by decide) rfl rfl rfl)) 4, tv, tv, tv, by decide +kernel, by exact box_cellC (box_atC H0 (some mb) 0 rfl (H0.apart 0 1 (by decide) rfl rfl rfl)) 5, tv, tv, by decide +kernel, by exact box_cellC (box_atC H0 (some mb) 0 rfl (H0.apart 0 1 (by decide) rfl rfl rfl)) 5, ⟨by kernel_rfl, arr_idx (by omega) (by omega)⟩, tv⟩ fun a hA => ?_
 refine m_one 19 ?_; refine q_store 19 3 (.tmp 35) (.tmp 30) 1 mb (0 + v.toNat * 1) 3 ((arrV n fun j => .int .i64 (s.met j))) [.int .i64 (s.cnt + 1)] ((arrV n fun j => .int .i64 ((Deep.upd s.met v (s.cnt + 1)) j))) (.int .i64 (s.cnt + 1)) [(0, pv fb), (1, iv v), (2, iv via), (25, (.slice (some ⟨lb, 0, none⟩) n.toNat n.toNat)), (26, iv v), (34, iv (s.cnt + 1))] hA H rfl rfl (arr_room (by omega) (by omega)) (arr_set (by omega) (by omega) (congrArg (Value.int .i64) (Deep.upd_same _ _ _)) (fun j hj => congrArg (Value.int .i64) (Deep.upd_ne _ _ hj))) (fun v hv => by simp only [List.mem_cons, List.not_mem_nil, or_false] at hv; rcases hv with rfl; exact rfl) fun a w6 H hA hG => ?_
 replace H : Fr _ _ _ (.box fb 106 [.int .i64 n, ve, vd, (.slice (some ⟨mb, 0, none⟩) n.toNat n.toNat), (.slice (some ⟨lb, 0, none⟩) n.toNat n.toNat), .int .i64 (s.cnt + 1), ev, (.map (some pb))] :: .box mb 3 (arrV n fun j => .int .i64 ((Deep.upd s.met v (s.cnt + 1)) j)) :: .box lb 3 (arrV n fun j => .int .i64 (s.low j)) :: .row 3 ev s.stk :: mapR Try.prog 3 pb ins :: .ro vd DL :: tl) := H
 replace hD := hD.grown hG (fun b hb => .inl hb.symm)
 refine ⟨fun _ => hD, ?_⟩
 refine m_one 20 ?_; refine q_one 20 [] [(0, pv fb), (1, iv v), (2, iv via), (34, iv (s.cnt + 1)), (36, .pointer (some ⟨lb, 0 + v.toNat * 1, none⟩))] (((Try.prog.info? 3).isSome = true ∧ IdxOk (.slice (some ⟨lb, 0, none⟩) n.toNat n.toNat) v) ∧ True) hA H ⟨⟨by kernel_rfl, arr_idx (by omega) (by omega)⟩, tv⟩ fun a w7 H hA hG => ?_
 refine ⟨fun h => absurd h (by decide), ?_⟩
 refine m_one 21 ?_; refine q_store 21 3 (.tmp 36) (.tmp 34) 2 lb (0 + v.toNat * 1) 3 ((arrV n fun j => .int .i64 (s.low j))) [.int .i64 (s.cnt + 1)] ((arrV n fun j => .int .i64 ((Deep.upd s.low v (s.cnt + 1)) j))) (.int .i64 (s.cnt + 1)) [(0, pv fb), (1, iv v), (2, iv via)] hA H rfl rfl (arr_room (by omega) (by omega)) (arr_set (by omega) (by omega) (congrArg (Value.int .i64) (Deep.upd_same _ _ _)) (fun j hj => congrArg (Value.int .i64) (Deep.upd_ne _ _ hj))) (fun v hv => by simp only [List.mem_cons, List.not_mem_nil, or_false] at hv; rcases hv with rfl; exact rfl) fun a w8 H hA hG => ?_
 replace H : Fr _ _ _ (.box fb 106 [.int .i64 n, ve, vd, (.slice (some ⟨mb, 0, none⟩) n.toNat n.toNat), (.slice (some ⟨lb, 0, none⟩) n.toNat n.toNat), .int .i64 (s.cnt + 1), ev, (.map (some pb))] :: .box mb 3 (arrV n fun j => .int .i64 ((Deep.upd s.met v (s.cnt + 1)) j)) :: .box lb 3 (arrV n fun j => .int .i64 ((Deep.upd s.low v (s.cnt + 1)) j)) :: .row 3 ev s.stk :: mapR Try.prog 3 pb ins :: .ro vd DL :: tl) := H
 refine ⟨fun h => absurd h (by decide), ?_⟩
 refine m_end ?_
 refine hK4 _ _ ?_
 refine go_seq fun K9 hK9 => ?_
 obtain ⟨u, huc, hur⟩ := cell_sliceC (C := On w8) H.keepsS (H.getS 5 rfl) v
 have hu := hur hv0 (by omega)
 rw [hDL v hv0 hv1] at hu
 have hul := rd_len hu
 replace H := H.ro hu
 replace H : Fr _ _ _ (.box fb 106 [.int .i64 n, ve, vd, (.slice (some ⟨mb, 0, none⟩) n.toNat n.toNat), (.slice (some ⟨lb, 0, none⟩) n.toNat n.toNat), .int .i64 (s.cnt + 1), ev, (.map (some pb))] :: .box mb 3 (arrV n fun j => .int .i64 ((Deep.upd s.met v (s.cnt + 1)) j)) :: .box lb 3 (arrV n fun j => .int .i64 ((Deep.upd s.low v (s.cnt + 1)) j)) :: .row 3 ev s.stk :: mapR Try.prog 3 pb ins :: .ro vd DL :: .ro u (dartsL E L v) :: tl) := H.sink 1 6
 refine q_reg [(40, vd), (43, u), (44, iv ((dartsL E L v).length : Int))] [(0, pv fb), (1, iv v), (2, iv via), (43, u), (44, iv ((dartsL E L v).length : Int)), (45, iv 0)] (TT ∧ TT ∧ (0 < Try.prog.cellsOf 67) ∧ (CellOk (On w8) fb (0 + 2) (vd)) ∧ TT ∧ ((Try.prog.info? 27).isSome = true ∧ IdxOk vd v) ∧ (CellOk (On w8) (hdB vd) (hdO vd + v.toNat * 1) u) ∧ (LenOk u ((dartsL E L v).length : Int)) ∧ TT ∧ True) hA H ⟨tv, tv, by decide +kernel, by exact box_cell H 0 rfl 2, tv, ⟨by kernel_rfl, by exact idx_ok (H.get 5 rfl) (by omega) (by omega)⟩, by exact huc hv0 (by omega), by exact len_ok (H.get 6 rfl), tv, tv⟩ fun a w10 hA H hG => ?_
 refine hK9 _ _ ?_
 refine go_block 0 ?_
 refine go_loop_ (Int × Deep.St × Value × List (Int × Value × List Int)) (fun x_ a W => (fun (i : Int) (t : Deep.St) (eu : Value) (iu : List (Int × Value × List Int)) => EnvOk 182 a (keepEnv [(0, pv fb), (1, iv v), (2, iv via), (43, u), (44, iv ((dartsL E L v).length : Int)), (45, iv i)]) ∧ (∃ S, Fr o W S (.box fb 106 [.int .i64 n, ve, vd, (.slice (some ⟨mb, 0, none⟩) n.toNat n.toNat), (.slice (some ⟨lb, 0, none⟩) n.toNat n.toNat), .int .i64 t.cnt, eu, (.map (some pb))] :: .box mb 3 (arrV n fun j => .int .i64 (t.met j)) :: .box lb 3 (arrV n fun j => .int .i64 (t.low j)) :: .row 3 eu t.stk :: mapR Try.prog 3 pb iu :: .ro vd DL :: .ro u (dartsL E L v) :: tl)) ∧ 0 ≤ i ∧ 0 ≤ t.cnt ∧ Deep.Steps (Deep.Visit (dartsL E L) (headE E) h) (headE E) v via ((dartsL E L v).drop i.toNat) t s' ∧ insOf iu = t.ins) x_.1 x_.2.1 x_.2.2.1 x_.2.2.2) (fun x_ => (fun (i : Int) (t : Deep.St) (eu : Value) (iu : List (Int × Value × List Int)) => (((dartsL E L v).length : Int) - i).toNat) x_.1 x_.2.1 x_.2.2.1 x_.2.2.2) (0, Deep.enter v s, ev, ins) ?_ (fun x_ a w12 hI => ?_)
 · (try dsimp only); exact ⟨env_sub _ hA, ⟨_, H⟩, by omega, (by show 0 ≤ s.cnt + 1; omega), hv, hi⟩
 obtain ⟨i, t, eu, iu⟩ := x_
 obtain ⟨hA, ⟨S, H⟩, h0, hc, hst, hit⟩ := hI
 try dsimp only at h0 hc hst hit
 replace H : Fr _ _ _ (.box fb 106 [.int .i64 n, ve, vd, (.slice (some ⟨mb, 0, none⟩) n.toNat n.toNat), (.slice (some ⟨lb, 0, none⟩) n.toNat n.toNat), .int .i64 t.cnt, eu, (.map (some pb))] :: .box mb 3 (arrV n fun j => .int .i64 (t.met j)) :: .box lb 3 (arrV n fun j => .int .i64 (t.low j)) :: .row 3 eu t.stk :: mapR Try.prog 3 pb iu :: .ro vd DL :: .ro u (dartsL E L v) :: tl) := H
 have hbt := Deep.steps_bd (Deep.visit_bd h) hst hb
 have hil : iu.length ≤ 1000000000 := by have := hbt.ins; rw [← hit, List.length_map] at this; exact this
 have hsl : t.stk.length ≤ 1000000000 := by have := hbt.len; rw [List.length_append] at this; omega
 refine go_seq fun K13 hK13 => ?_
 refine q_reg [] [(0, pv fb), (1, iv v), (2, iv via), (43, u), (44, iv ((dartsL E L v).length : Int)), (45, iv i), (46, .bool (decide (i < ((dartsL E L v).length : Int))))] (TT ∧ True) hA H ⟨tv, tv⟩ fun a w14 hA H hG => ?_
 refine hK13 _ _ ?_
 refine go_seq fun K15 hK15 => ?_
 refine go_cond hA (.tmp 46) (decide (i < ((dartsL E L v).length : Int))) (fun hb16 => ?_) (fun hb16 => ?_)
 · have hhb16 := of_decide_eq_true hb16
   refine go_skip ?_
   refine hK15 _ _ ?_
   refine go_seq fun K17 hK17 => ?_
   refine go_block 1 ?_
   refine go_seq fun K18 hK18 => ?_
   have hdm : ((dartsL E L v).getD i.toNat 0) ∈ dartsL E L v := mem_getD.2 ⟨i.toNat, by omega, rfl⟩
   obtain ⟨hd0, hd1, hd2, hd3, hd4, hd5⟩ := dart_ok hr hL hdm
   rw [drop_round h0 (by omega)] at hst
   refine q_reg [(48, iv ((dartsL E L v).getD i.toNat 0))] [(0, pv fb), (1, iv v), (2, iv via), (7, iv ((dartsL E L v).getD i.toNat 0)), (43, u), (44, iv ((dartsL E L v).length : Int)), (45, iv i)] (((Try.prog.info? 3).isSome = true ∧ IdxOk u i) ∧ (CellOk (On w14) (hdB u) (hdO u + i.toNat * 1) (.int .i64 ((dartsL E L v).getD i.toNat 0))) ∧ TT ∧ True) hA H ⟨⟨by kernel_rfl, by exact idx_ok (H.get 6 rfl) (by omega) (by omega)⟩, by exact cell_flat (i := i) (H.get 6 rfl) (by omega) (by omega) 0 0, tv, tv⟩ fun a w19 hA H hG => ?_
   refine hK18 _ _ ?_
   refine go_seq fun K20 hK20 => ?_
   refine q_reg [(54, .agg #[.int .i64 n, ve]), (56, iv (headE E ((dartsL E L v).getD i.toNat 0)))] [(0, pv fb), (1, iv v), (2, iv via), (8, iv (((dartsL E L v).getD i.toNat 0) / 2)), (9, iv (headE E ((dartsL E L v).getD i.toNat 0))), (43, u), (44, iv ((dartsL E L v).length : Int)), (45, iv i)] (TT ∧ (0 ≤ ((dartsL E L v).getD i.toNat 0) ∧ 0 < (2 : Int) ∧ InR .i64 ((dartsL E L v).getD i.toNat 0)) ∧ TT ∧ TT ∧ (0 < Try.prog.cellsOf 24) ∧ ((Try.prog.info? 24).isSome = true ∧ RowOk (On w19) fb (0 + 0) (Try.prog.cellsOf 24) #[.int .i64 n, ve]) ∧ TT ∧ (Callable Try.prog 128 ∧ CallOk Try.prog (On w19) 128 [.agg #[.int .i64 n, ve], .int .i64 ((dartsL E L v).getD i.toNat 0)].toArray (.int .i64 (headE E ((dartsL E L v).getD i.toNat 0)))) ∧ TT ∧ TT ∧ True) hA H ⟨tv, ⟨by omega, by omega, by omega, by omega⟩, tv, tv, by decide +kernel, ⟨by kernel_rfl, by exact box_row H 0 rfl 0 2⟩, tv, ⟨callable_of, callOk_of fun w hw => by exact btarget_any n ve E ((dartsL E L v).getD i.toNat 0) w (by omega) (((H.on hw).arg hE)) (by omega) (by omega) (by omega)⟩, tv, tv, tv⟩ fun a w21 hA H hG => ?_
   refine hK20 _ _ ?_
   refine go_block 2 ?_
   refine go_seq fun K22 hK22 => ?_
   refine q_reg [] [(0, pv fb), (1, iv v), (2, iv via), (8, iv (((dartsL E L v).getD i.toNat 0) / 2)), (9, iv (headE E ((dartsL E L v).getD i.toNat 0))), (43, u), (44, iv ((dartsL E L v).length : Int)), (45, iv i), (57, .bool (decide (headE E ((dartsL E L v).getD i.toNat 0) = v)))] (TT ∧ TT ∧ TT ∧ TT ∧ True) hA H ⟨tv, tv, tv, tv, tv⟩ fun a w23 hA H hG => ?_
   refine hK22 _ _ ?_
   refine go_cond hA (.tmp 57) (decide (headE E ((dartsL E L v).getD i.toNat 0) = v)) (fun hb24 => ?_) (fun hb24 => ?_)
   · have hhb24 := of_decide_eq_true hb24
     refine region_list ?_
     refine q_list 0 6 [(64, (.map (some pb)))] [(0, pv fb), (1, iv v), (2, iv via), (43, u), (44, iv ((dartsL E L v).length : Int)), (45, iv i), (64, (.map (some pb))), (65, iv (((dartsL E L v).getD i.toNat 0) / 2)), (66, iv (((dartsL E L v).getD i.toNat 0) / 2))] (TT ∧ TT ∧ (0 < Try.prog.cellsOf 104) ∧ (CellOk (On w23) fb (0 + 7) ((.map (some pb)))) ∧ TT ∧ TT ∧ True) hA H ⟨tv, tv, by decide +kernel, by exact box_cell H 0 rfl 7, tv, tv, tv⟩ fun a w25 hA H hG => ?_
     refine list_at 6 ?_; refine q_lit 6 67 27 1 #[(0, .tmp 66)] 3 [(0, iv (((dartsL E L v).getD i.toNat 0) / 2))] [.int .i64 (((dartsL E L v).getD i.toNat 0) / 2)] [(0, pv fb), (1, iv v), (2, iv via), (43, u), (44, iv ((dartsL E L v).length : Int)), (45, iv i), (64, (.map (some pb))), (65, iv (((dartsL E L v).getD i.toNat 0) / 2))] hA H fun b26 a w27 H hA hG hge_b26 => ?_
     clear hge_b26
     obtain ⟨S, _, H⟩ := H.freezeBox 0 rfl (by exact (RowRd.single (α := Int) (a := ((dartsL E L v).getD i.toNat 0) / 2) (by exact rfl))) (n := 1) rfl (by decide)
     replace H : Fr _ _ _ (.ro (.slice (some ⟨b26, 0, none⟩) 1 1) ([((dartsL E L v).getD i.toNat 0) / 2] : List Int) :: .box fb 106 [.int .i64 n, ve, vd, (.slice (some ⟨mb, 0, none⟩) n.toNat n.toNat), (.slice (some ⟨lb, 0, none⟩) n.toNat n.toNat), .int .i64 t.cnt, eu, (.map (some pb))] :: .box mb 3 (arrV n fun j => .int .i64 (t.met j)) :: .box lb 3 (arrV n fun j => .int .i64 (t.low j)) :: .row 3 eu t.stk :: mapR Try.prog 3 pb iu :: .ro vd DL :: .ro u (dartsL E L v) :: tl) := H
     refine list_at 7 ?_; refine q_mapUpdate 7 104 (.tmp 64) (.tmp 65) (.tmp 67) 5 pb iu (((dartsL E L v).getD i.toNat 0) / 2) (.slice (some ⟨b26, 0, none⟩) 1 1) ([((dartsL E L v).getD i.toNat 0) / 2] : List Int) [(0, pv fb), (1, iv v), (2, iv via), (43, u), (44, iv ((dartsL E L v).length : Int)), (45, iv i)] hA H rfl (H.getS 0 rfl) ⟨by omega, by omega⟩ (by (try simp only [List.length_append, List.length_cons, List.length_nil]); omega) Try.underlying104 Try.underlying3 fun a w29 H hA hG => ?_
     replace H : Fr _ _ _ (.ro (.slice (some ⟨b26, 0, none⟩) 1 1) ([((dartsL E L v).getD i.toNat 0) / 2] : List Int) :: .box fb 106 [.int .i64 n, ve, vd, (.slice (some ⟨mb, 0, none⟩) n.toNat n.toNat), (.slice (some ⟨lb, 0, none⟩) n.toNat n.toNat), .int .i64 t.cnt, eu, (.map (some pb))] :: .box mb 3 (arrV n fun j => .int .i64 (t.met j)) :: .box lb 3 (arrV n fun j => .int .i64 (t.low j)) :: .row 3 eu t.stk :: mapR Try.prog 3 (α := List (Int)) pb (iu ++ [(((dartsL E L v).getD i.toNat 0) / 2, (.slice (some ⟨b26, 0, none⟩) 1 1), ([((dartsL E L v).getD i.toNat 0) / 2] : List Int))]) :: .ro vd DL :: .ro u (dartsL E L v) :: tl) := H
     refine list_end ?_
     refine hK17 _ _ ?_
     refine q_reg [] [(0, pv fb), (1, iv v), (2, iv via), (43, u), (44, iv ((dartsL E L v).length : Int)), (45, iv (i + 1))] ((InR .i64 (i + 1)) ∧ TT ∧ True) hA H ⟨⟨by omega, by omega⟩, tv, tv⟩ fun a w30 hA H hG => ?_
     replace H := H.drop 0
     refine ⟨(i + 1, { t with ins := t.ins ++ [(((dartsL E L v).getD i.toNat 0) / 2, [((dartsL E L v).getD i.toNat 0) / 2])] }, eu, iu ++ [(((dartsL E L v).getD i.toNat 0) / 2, (.slice (some ⟨b26, 0, none⟩) 1 1), ([((dartsL E L v).getD i.toNat 0) / 2] : List Int))]), ⟨env_sub _ hA, ⟨_, H⟩, ?_⟩, ?_⟩
     · (try dsimp only); exact ⟨by omega, hc, Deep.steps_lp hst hhb24, by show List.map _ (_ ++ _) = _ ++ _; rw [List.map_append]; exact congr (congrArg _ hit) rfl⟩
     (try dsimp only); omega
   have hhb24 := of_decide_eq_false hb24
   refine go_seq fun K31 hK31 => ?_
   refine q_reg [] [(0, pv fb), (1, iv v), (2, iv via), (8, iv (((dartsL E L v).getD i.toNat 0) / 2)), (9, iv (headE E ((dartsL E L v).getD i.toNat 0))), (43, u), (44, iv ((dartsL E L v).length : Int)), (45, iv i), (68, .bool (decide (((dartsL E L v).getD i.toNat 0) / 2 = via)))] (TT ∧ TT ∧ TT ∧ TT ∧ True) hA H ⟨tv, tv, tv, tv, tv⟩ fun a w32 hA H hG => ?_
   refine hK31 _ _ ?_
   refine go_cond hA (.tmp 68) (decide (((dartsL E L v).getD i.toNat 0) / 2 = via)) (fun hb33 => ?_) (fun hb33 => ?_)
   · have hhb33 := of_decide_eq_true hb33
     refine go_skip ?_
     refine hK17 _ _ ?_
     refine q_reg [] [(0, pv fb), (1, iv v), (2, iv via), (43, u), (44, iv ((dartsL E L v).length : Int)), (45, iv (i + 1))] ((InR .i64 (i + 1)) ∧ TT ∧ True) hA H ⟨⟨by omega, by omega⟩, tv, tv⟩ fun a w34 hA H hG => ?_
     refine ⟨(i + 1, t, eu, iu), ⟨env_sub _ hA, ⟨_, H⟩, ?_⟩, ?_⟩
     · (try dsimp only); exact ⟨by omega, hc, Deep.steps_via hst hhb24 hhb33, hit⟩
     (try dsimp only); omega
   have hhb33 := of_decide_eq_false hb33
   refine go_seq fun K35 hK35 => ?_
   refine q_reg [(76, (.slice (some ⟨mb, 0, none⟩) n.toNat n.toNat)), (79, iv (t.met (headE E ((dartsL E L v).getD i.toNat 0))))] [(0, pv fb), (1, iv v), (2, iv via), (8, iv (((dartsL E L v).getD i.toNat 0) / 2)), (9, iv (headE E ((dartsL E L v).getD i.toNat 0))), (43, u), (44, iv ((dartsL E L v).length : Int)), (45, iv i), (72, .bool (decide (t.met (headE E ((dartsL E L v).getD i.toNat 0)) = 0)))] (TT ∧ TT ∧ (0 < Try.prog.cellsOf 27) ∧ (CellOk (On w32) fb (0 + 3) ((.slice (some ⟨mb, 0, none⟩) n.toNat n.toNat))) ∧ TT ∧ ((Try.prog.info? 3).isSome = true ∧ IdxOk (.slice (some ⟨mb, 0, none⟩) n.toNat n.toNat) (headE E ((dartsL E L v).getD i.toNat 0))) ∧ (CellOk (On w32) mb (0 + (headE E ((dartsL E L v).getD i.toNat 0)).toNat * 1) (.int .i64 (t.met (headE E ((dartsL E L v).getD i.toNat 0))))) ∧ TT ∧ TT ∧ True) hA H ⟨tv, tv, by decide +kernel, by exact box_cell H 0 rfl 3, tv, ⟨by kernel_rfl, arr_idx (by omega) (by omega)⟩, by exact arr_cell H 1 rfl (by omega) (by omega), tv, tv, tv⟩ fun a w36 hA H hG => ?_
   refine hK35 _ _ ?_
   refine go_cond hA (.tmp 72) (decide (t.met (headE E ((dartsL E L v).getD i.toNat 0)) = 0)) (fun hb37 => ?_) (fun hb37 => ?_)
   · have hhb37 := of_decide_eq_true hb37
     refine go_seq fun K38 hK38 => ?_
     refine region_list ?_
     refine q_list 0 6 [(85, eu)] [(0, pv fb), (1, iv v), (2, iv via), (8, iv (((dartsL E L v).getD i.toNat 0) / 2)), (9, iv (headE E ((dartsL E L v).getD i.toNat 0))), (43, u), (44, iv ((dartsL E L v).length : Int)), (45, iv i), (81, pv fb), (85, eu), (86, iv (((dartsL E L v).getD i.toNat 0) / 2))] (TT ∧ TT ∧ TT ∧ (0 < Try.prog.cellsOf 27) ∧ (CellOk (On w36) fb (0 + 6) (eu)) ∧ TT ∧ True) hA H ⟨tv, tv, tv, by decide +kernel, by exact box_cell H 0 rfl 6, tv, tv⟩ fun a w39 hA H hG => ?_
     refine list_at 6 ?_; refine q_lit 6 87 27 1 #[(0, .tmp 86)] 3 [(0, iv (((dartsL E L v).getD i.toNat 0) / 2))] [.int .i64 (((dartsL E L v).getD i.toNat 0) / 2)] [(0, pv fb), (1, iv v), (2, iv via), (8, iv (((dartsL E L v).getD i.toNat 0) / 2)), (9, iv (headE E ((dartsL E L v).getD i.toNat 0))), (43, u), (44, iv ((dartsL E L v).length : Int)), (45, iv i), (81, pv fb), (85, eu)] hA H fun b40 a w41 H hA hG hge_b40 => ?_
     clear hge_b40
     refine list_at 7 ?_; refine q_push 7 88 (.tmp 85) (.tmp 87) 4 0 b40 1 1 eu t.stk [((dartsL E L v).getD i.toNat 0) / 2] [.int .i64 (((dartsL E L v).getD i.toNat 0) / 2)] [(0, pv fb), (1, iv v), (2, iv via), (8, iv (((dartsL E L v).getD i.toNat 0) / 2)), (9, iv (headE E ((dartsL E L v).getD i.toNat 0))), (43, u), (44, iv ((dartsL E L v).length : Int)), (45, iv i), (81, pv fb)] hA H Try.E27 rfl rfl (by exact (RowRd.single (α := Int) rfl)) rfl (by simp only [List.length_cons, List.length_nil, List.length_append]; omega) (by decide) fun v42 a w43 H hA hG => ?_
     replace H : Fr _ _ _ (.box fb 106 [.int .i64 n, ve, vd, (.slice (some ⟨mb, 0, none⟩) n.toNat n.toNat), (.slice (some ⟨lb, 0, none⟩) n.toNat n.toNat), .int .i64 t.cnt, eu, (.map (some pb))] :: .box mb 3 (arrV n fun j => .int .i64 (t.met j)) :: .box lb 3 (arrV n fun j => .int .i64 (t.low j)) :: .row 3 v42 (t.stk ++ [((dartsL E L v).getD i.toNat 0) / 2]) :: mapR Try.prog 3 pb iu :: .ro vd DL :: .ro u (dartsL E L v) :: tl) := H.drop 0
     refine q_list 8 2 [] [(0, pv fb), (1, iv v), (2, iv via), (8, iv (((dartsL E L v).getD i.toNat 0) / 2)), (9, iv (headE E ((dartsL E L v).getD i.toNat 0))), (43, u), (44, iv ((dartsL E L v).length : Int)), (45, iv i), (88, v42), (90, .pointer (some ⟨fb, 0 + 6, none⟩))] (TT ∧ (0 < Try.prog.cellsOf 27) ∧ True) hA H ⟨tv, by decide +kernel, tv⟩ fun a w44 hA H hG => ?_
     refine list_at 10 ?_; refine q_store 10 27 (.tmp 90) (.tmp 88) 0 fb (0 + 6) 106 [.int .i64 n, ve, vd, (.slice (some ⟨mb, 0, none⟩) n.toNat n.toNat), (.slice (some ⟨lb, 0, none⟩) n.toNat n.toNat), .int .i64 t.cnt, eu, (.map (some pb))] [v42] [.int .i64 n, ve, vd, (.slice (some ⟨mb, 0, none⟩) n.toNat n.toNat), (.slice (some ⟨lb, 0, none⟩) n.toNat n.toNat), .int .i64 t.cnt, v42, (.map (some pb))] v42 [(0, pv fb), (1, iv v), (2, iv via), (8, iv (((dartsL E L v).getD i.toNat 0) / 2)), (9, iv (headE E ((dartsL E L v).getD i.toNat 0))), (43, u), (44, iv ((dartsL E L v).length : Int)), (45, iv i)] hA H rfl (one_cells (rd_one (H.out 3 rfl))) (Nat.le_of_ble_eq_true (by kernel_rfl)) rfl (fun v hv => by simp only [List.mem_cons, List.not_mem_nil, or_false] at hv; rcases hv with rfl; exact (rd_one (H.out 3 rfl))) fun a w45 H hA hG => ?_
     replace H : Fr _ _ _ (.box fb 106 [.int .i64 n, ve, vd, (.slice (some ⟨mb, 0, none⟩) n.toNat n.toNat), (.slice (some ⟨lb, 0, none⟩) n.toNat n.toNat), .int .i64 t.cnt, v42, (.map (some pb))] :: .box mb 3 (arrV n fun j => .int .i64 (t.met j)) :: .box lb 3 (arrV n fun j => .int .i64 (t.low j)) :: .row 3 v42 (t.stk ++ [((dartsL E L v).getD i.toNat 0) / 2]) :: mapR Try.prog 3 pb iu :: .ro vd DL :: .ro u (dartsL E L v) :: tl) := H
     refine list_end ?_
     refine hK38 _ _ ?_
     refine go_seq fun K46 hK46 => ?_
     refine region_list ?_
     refine q_list 0 3 [] [(0, pv fb), (1, iv v), (2, iv via), (8, iv (((dartsL E L v).getD i.toNat 0) / 2)), (9, iv (headE E ((dartsL E L v).getD i.toNat 0))), (43, u), (44, iv ((dartsL E L v).length : Int)), (45, iv i), (91, pv fb), (92, iv (headE E ((dartsL E L v).getD i.toNat 0))), (93, iv (((dartsL E L v).getD i.toNat 0) / 2))] (TT ∧ TT ∧ TT ∧ True) hA H ⟨tv, tv, tv, tv⟩ fun a w47 hA H hG => ?_
     obtain ⟨s1, hc1, hk1, hk2⟩ := Deep.steps_go hst hhb24 hhb33 hhb37
     have hb1 : Deep.Bd s1 := by
       by_cases q : s1.low (headE E ((dartsL E L v).getD i.toNat 0)) < s1.met v
       · exact (Deep.steps_bd (Deep.visit_bd h) (hk1 q) hb).low
       obtain ⟨pre, S0, e1, e2, hk⟩ := hk2 q; exact Deep.Bd.take e1 (Deep.steps_bd (Deep.visit_bd h) hk hb)
     have hc2 := Deep.visit_cnt _ _ _ _ _ hc1; simp only at hc2
     refine list_at 3 ?_; refine q_any 3 94 102 #[.tmp 91, .tmp 92, .tmp 93] #[107, 3, 3] [.pointer (some ⟨fb, 0, none⟩), .int .i64 (headE E ((dartsL E L v).getD i.toNat 0)), .int .i64 (((dartsL E L v).getD i.toNat 0) / 2)] (fun u9 w9 => ∃ S ev9 in9, Fr o w9 S (finR n ve vd DL fb mb lb pb s1 ev9 in9 (.ro u (dartsL E L v) :: tl)) ∧ insOf in9 = s1.ins) [(0, pv fb), (1, iv v), (2, iv via), (8, iv (((dartsL E L v).getD i.toNat 0) / 2)), (9, iv (headE E ((dartsL E L v).getD i.toNat 0))), (43, u), (44, iv ((dartsL E L v).length : Int)), (45, iv i)] hA ((ih _ _ { t with stk := t.stk ++ [((dartsL E L v).getD i.toNat 0) / 2] } s1 _ _ v42 iu (.ro u (dartsL E L v) :: tl) hc1 hb1 hc hd2 hd3 H hit).mono fun e9 w9 h9 => ⟨_, h9.1, h9.2⟩) fun v48 a w49 hR50 hA => ?_
     obtain ⟨S, ev2, iu2, H, hi2⟩ := hR50
     replace H : Fr _ _ _ (.box fb 106 [.int .i64 n, ve, vd, (.slice (some ⟨mb, 0, none⟩) n.toNat n.toNat), (.slice (some ⟨lb, 0, none⟩) n.toNat n.toNat), .int .i64 s1.cnt, ev2, (.map (some pb))] :: .box mb 3 (arrV n fun j => .int .i64 (s1.met j)) :: .box lb 3 (arrV n fun j => .int .i64 (s1.low j)) :: .row 3 ev2 s1.stk :: mapR Try.prog 3 pb iu2 :: .ro vd DL :: .ro u (dartsL E L v) :: tl) := H
     refine list_end ?_
     refine hK46 _ _ ?_
     refine go_seq fun K51 hK51 => ?_
     have H0 := H
     have hM0 := H0.keeps none (.inl rfl)
     refine region_mix (But w49 none) [0, 1, 2, 3, 4, 5, 6, 7, 8, 9, 10, 11, 12, 13, 14, 15, 16, 17, 18, 19] 22 ?_
     replace H := H.drawn; have hD := But.drew w49 none
     generalize ({ w49 with drawn := w49.drawn + 1 } : World) = w52 at H hD ⊢
     refine m_take (n := 2) [0, 1, 2, 3, 4, 5, 6, 7, 8, 9, 10, 11, 12, 13, 14, 15, 16, 17, 18, 19] #[true, true, true, true, true, true, true, true, true, true, true, true, true, true, true, true, true, true, true, true, false, false] [(98, (.slice (some ⟨lb, 0, none⟩) n.toNat n.toNat)), (103, (.slice (some ⟨lb, 0, none⟩) n.toNat n.toNat)), (106, iv (s1.low v)), (110, (.slice (some ⟨lb, 0, none⟩) n.toNat n.toNat)), (113, iv (s1.low (headE E ((dartsL E L v).getD i.toNat 0)))), (114, iv (min (s1.low v) (s1.low (headE E ((dartsL E L v).getD i.toNat 0)))))] [(0, pv fb), (1, iv v), (2, iv via), (8, iv (((dartsL E L v).getD i.toNat 0) / 2)), (9, iv (headE E ((dartsL E L v).getD i.toNat 0))), (43, u), (44, iv ((dartsL E L v).length : Int)), (45, iv i), (98, (.slice (some ⟨lb, 0, none⟩) n.toNat n.toNat)), (99, iv v), (114, iv (min (s1.low v) (s1.low (headE E ((dartsL E L v).getD i.toNat 0)))))] (TT ∧ TT ∧ (0 < Try.prog.cellsOf 27) ∧ (CellOk (But w49 none) fb (0 + 4) ((.slice (some ⟨lb, 0, none⟩) n.toNat n.toNat))) ∧ TT ∧ TT ∧ TT ∧ (0 < Try.prog.cellsOf 27) ∧ (CellOk (But w49 none) fb (0 + 4) ((.slice (some ⟨lb, 0, none⟩) n.toNat n.toNat))) ∧ TT ∧ ((Try.prog.info? 3).isSome = true ∧ IdxOk (.slice (some ⟨lb, 0, none⟩) n.toNat n.toNat) v) ∧ (CellOk (But w49 none) lb (0 + v.toNat * 1) (.int .i64 (s1.low v))) ∧ TT ∧ TT ∧ (0 < Try.prog.cellsOf 27) ∧ (CellOk (But w49 none) fb (0 + 4) ((.slice (some ⟨lb, 0, none⟩) n.toNat n.toNat))) ∧ TT ∧ ((Try.prog.info? 3).isSome = true ∧ IdxOk (.slice (some ⟨lb, 0, none⟩) n.toNat n.toNat) (headE E ((dartsL E L v).getD i.toNat 0))) ∧ (CellOk (But w49 none) lb (0 + (headE E ((dartsL E L v).getD i.toNat 0)).toNat * 1) (.int .i64 (s1.low (headE E ((dartsL E L v).getD i.toNat 0))))) ∧ (∀ ty w, (Builtin.min_ #[3, 3] ty [.int .i64 (s1.low v), .int .i64 (s1.low (headE E ((dartsL E L v).getD i.toNat 0)))].toArray).run Try.prog w = .ok (.int .i64 (min (s1.low v) (s1.low (headE E ((dartsL E L v).getD i.toNat 0))))) w) ∧ True) hA hD ⟨tv, tv, by decide +kernel, by exact box_cellC (box_atC H0 none 0 rfl (fun e => by cases e)) 4, tv, tv, tv, by decide +kernel, by exact box_cellC (box_atC H0 none 0 rfl (fun e => by cases e)) 4, tv, ⟨by kernel_rfl, arr_idx (by omega) (by omega)⟩, by exact arr_cellC (box_atC H0 none 2 rfl (fun e => by cases e)) (by omega) (by omega), tv, tv, by decide +kernel, by exact box_cellC (box_atC H0 none 0 rfl (fun e => by cases e)) 4, tv, ⟨by kernel_rfl, arr_idx (by omega) (by omega)⟩, by exact arr_cellC (box_atC H0 none 2 rfl (fun e => by cases e)) (by omega) (by omega), fun ty w => min_ok ty w, tv⟩ fun a hA => ?_
     refine m_one 20 ?_; refine q_one 20 [] [(0, pv fb), (1, iv v), (2, iv via), (8, iv (((dartsL E L v).getD i.toNat 0) / 2)), (9, iv (headE E ((dartsL E L v).getD i.toNat 0))), (43, u), (44, iv ((dartsL E L v).length : Int)), (45, iv i), (114, iv (min (s1.low v) (s1.low (headE E ((dartsL E L v).getD i.toNat 0))))), (115, .pointer (some ⟨lb, 0 + v.toNat * 1, none⟩))] (((Try.prog.info? 3).isSome = true ∧ IdxOk (.slice (some ⟨lb, 0, none⟩) n.toNat n.toNat) v) ∧ True) hA H ⟨⟨by kernel_rfl, arr_idx (by omega) (by omega)⟩, tv⟩ fun a w53 H hA hG => ?_
     refine ⟨fun h => absurd h (by decide), ?_⟩
     refine m_one 21 ?_; refine q_store 21 3 (.tmp 115) (.tmp 114) 2 lb (0 + v.toNat * 1) 3 ((arrV n fun j => .int .i64 (s1.low j))) [.int .i64 (min (s1.low v) (s1.low (headE E ((dartsL E L v).getD i.toNat 0))))] ((arrV n fun j => .int .i64 ((Deep.upd s1.low v (min (s1.low v) (s1.low (headE E ((dartsL E L v).getD i.toNat 0))))) j))) (.int .i64 (min (s1.low v) (s1.low (headE E ((dartsL E L v).getD i.toNat 0))))) [(0, pv fb), (1, iv v), (2, iv via), (8, iv (((dartsL E L v).getD i.toNat 0) / 2)), (9, iv (headE E ((dartsL E L v).getD i.toNat 0))), (43, u), (44, iv ((dartsL E L v).length : Int)), (45, iv i)] hA H rfl rfl (arr_room (by omega) (by omega)) (arr_set (by omega) (by omega) (congrArg (Value.int .i64) (Deep.upd_same _ _ _)) (fun j hj => congrArg (Value.int .i64) (Deep.upd_ne _ _ hj))) (fun v hv => by simp only [List.mem_cons, List.not_mem_nil, or_false] at hv; rcases hv with rfl; exact rfl) fun a w54 H hA hG => ?_
     replace H : Fr _ _ _ (.box fb 106 [.int .i64 n, ve, vd, (.slice (some ⟨mb, 0, none⟩) n.toNat n.toNat), (.slice (some ⟨lb, 0, none⟩) n.toNat n.toNat), .int .i64 s1.cnt, ev2, (.map (some pb))] :: .box mb 3 (arrV n fun j => .int .i64 (s1.met j)) :: .box lb 3 (arrV n fun j => .int .i64 ((Deep.upd s1.low v (min (s1.low v) (s1.low (headE E ((dartsL E L v).getD i.toNat 0))))) j)) :: .row 3 ev2 s1.stk :: mapR Try.prog 3 pb iu2 :: .ro vd DL :: .ro u (dartsL E L v) :: tl) := H
     refine ⟨fun h => absurd h (by decide), ?_⟩
     refine m_end ?_
     refine hK51 _ _ ?_
     refine go_seq fun K55 hK55 => ?_
     refine q_draw [(119, (.slice (some ⟨lb, 0, none⟩) n.toNat n.toNat)), (122, iv ((Deep.upd s1.low v (min (s1.low v) (s1.low (headE E ((dartsL E L v).getD i.toNat 0))))) (headE E ((dartsL E L v).getD i.toNat 0)))), (126, (.slice (some ⟨mb, 0, none⟩) n.toNat n.toNat)), (129, iv (s1.met v))] [(0, pv fb), (1, iv v), (2, iv via), (8, iv (((dartsL E L v).getD i.toNat 0) / 2)), (43, u), (44, iv ((dartsL E L v).length : Int)), (45, iv i), (130, .bool (decide (s1.met v ≤ (Deep.upd s1.low v (min (s1.low v) (s1.low (headE E ((dartsL E L v).getD i.toNat 0))))) (headE E ((dartsL E L v).getD i.toNat 0)))))] (TT ∧ TT ∧ (0 < Try.prog.cellsOf 27) ∧ (CellOk (On w54) fb (0 + 4) ((.slice (some ⟨lb, 0, none⟩) n.toNat n.toNat))) ∧ TT ∧ ((Try.prog.info? 3).isSome = true ∧ IdxOk (.slice (some ⟨lb, 0, none⟩) n.toNat n.toNat) (headE E ((dartsL E L v).getD i.toNat 0))) ∧ (CellOk (On w54) lb (0 + (headE E ((dartsL E L v).getD i.toNat 0)).toNat * 1) (.int .i64 ((Deep.upd s1.low v (min (s1.low v) (s1.low (headE E ((dartsL E L v).getD i.toNat 0))))) (headE E ((dartsL E L v).getD i.toNat 0))))) ∧ TT ∧ TT ∧ (0 < Try.prog.cellsOf 27) ∧ (CellOk (On w54) fb (0 + 3) ((.slice (some ⟨mb, 0, none⟩) n.toNat n.toNat))) ∧ TT ∧ ((Try.prog.info? 3).isSome = true ∧ IdxOk (.slice (some ⟨mb, 0, none⟩) n.toNat n.toNat) v) ∧ (CellOk (On w54) mb (0 + v.toNat * 1) (.int .i64 (s1.met v))) ∧ TT ∧ True) hA H ⟨tv, tv, by decide +kernel, by exact box_cell H 0 rfl 4, tv, ⟨by kernel_rfl, arr_idx (by omega) (by omega)⟩, by exact arr_cell H 2 rfl (by omega) (by omega), tv, tv, by decide +kernel, by exact box_cell H 0 rfl 3, tv, ⟨by kernel_rfl, arr_idx (by omega) (by omega)⟩, by exact arr_cell H 1 rfl (by omega) (by omega), tv, tv⟩ fun a w56 hA H hG => ?_
     refine hK55 _ _ ?_
     refine go_cond hA (.tmp 130) (decide (s1.met v ≤ (Deep.upd s1.low v (min (s1.low v) (s1.low (headE E ((dartsL E L v).getD i.toNat 0))))) (headE E ((dartsL E L v).getD i.toNat 0)))) (fun hb57 => ?_) (fun hb57 => ?_)
     · have hhb57 := of_decide_eq_true hb57
       refine region_list ?_
       refine q_list 0 2 [] [(0, pv fb), (1, iv v), (2, iv via), (43, u), (44, iv ((dartsL E L v).length : Int)), (45, iv i), (131, pv fb), (132, iv (((dartsL E L v).getD i.toNat 0) / 2))] (TT ∧ TT ∧ True) hA H ⟨tv, tv, tv⟩ fun a w58 hA H hG => ?_
       have hge : ¬ s1.low (headE E ((dartsL E L v).getD i.toNat 0)) < s1.met v := by have q := hhb57; rw [Deep.upd_ne _ _ hhb24] at q; omega
       obtain ⟨pre, S0, hs1, hs2, hk3⟩ := hk2 hge
       refine list_at 2 ?_; refine q_any 2 133 129 #[.tmp 131, .tmp 132] #[107, 3] [.pointer (some ⟨fb, 0, none⟩), .int .i64 (((dartsL E L v).getD i.toNat 0) / 2)] (fun u9 w9 => ∃ S ev9 in9, Fr o w9 S (finR n ve vd DL fb mb lb pb ({ s1 with low := (Deep.upd s1.low v (min (s1.low v) (s1.low (headE E ((dartsL E L v).getD i.toNat 0))))), stk := pre, blk := s1.blk ++ [((dartsL E L v).getD i.toNat 0) / 2 :: S0], ins := s1.ins ++ [Deep.key (((dartsL E L v).getD i.toNat 0) / 2 :: S0)] }) ev9 in9 (.ro u (dartsL E L v) :: tl)) ∧ insOf in9 = s1.ins ++ [Deep.key (((dartsL E L v).getD i.toNat 0) / 2 :: S0)]) [(0, pv fb), (1, iv v), (2, iv via), (43, u), (44, iv ((dartsL E L v).length : Int)), (45, iv i)] hA ((take_any n ve E L vd DL fb mb lb pb o _ { s1 with low := (Deep.upd s1.low v (min (s1.low v) (s1.low (headE E ((dartsL E L v).getD i.toNat 0))))) } ev2 iu2 (.ro u (dartsL E L v) :: tl) pre S0 _ _ hE H hs1 hs2 ⟨hb1.cnt, hb1.len, hb1.mem, hb1.ins⟩ hi2).mono fun e9 w9 h9 => ⟨_, h9.1, h9.2⟩) fun v59 a w60 hR61 hA => ?_
       obtain ⟨S, ev3, iu3, H, hi3⟩ := hR61
       replace H : Fr _ _ _ (.box fb 106 [.int .i64 n, ve, vd, (.slice (some ⟨mb, 0, none⟩) n.toNat n.toNat), (.slice (some ⟨lb, 0, none⟩) n.toNat n.toNat), .int .i64 s1.cnt, ev3, (.map (some pb))] :: .box mb 3 (arrV n fun j => .int .i64 (s1.met j)) :: .box lb 3 (arrV n fun j => .int .i64 ((Deep.upd s1.low v (min (s1.low v) (s1.low (headE E ((dartsL E L v).getD i.toNat 0))))) j)) :: .row 3 ev3 pre :: mapR Try.prog 3 pb iu3 :: .ro vd DL :: .ro u (dartsL E L v) :: tl) := H
       refine list_end ?_
       refine hK17 _ _ ?_
       refine q_reg [] [(0, pv fb), (1, iv v), (2, iv via), (43, u), (44, iv ((dartsL E L v).length : Int)), (45, iv (i + 1))] ((InR .i64 (i + 1)) ∧ TT ∧ True) hA H ⟨⟨by omega, by omega⟩, tv, tv⟩ fun a w62 hA H hG => ?_
       refine ⟨(i + 1, { s1 with low := (Deep.upd s1.low v (min (s1.low v) (s1.low (headE E ((dartsL E L v).getD i.toNat 0))))), stk := pre, blk := s1.blk ++ [((dartsL E L v).getD i.toNat 0) / 2 :: S0], ins := s1.ins ++ [Deep.key (((dartsL E L v).getD i.toNat 0) / 2 :: S0)] }, ev3, iu3), ⟨env_sub _ hA, ⟨_, H⟩, ?_⟩, ?_⟩
       · (try dsimp only); exact ⟨by omega, by show 0 ≤ s1.cnt; omega, hk3, hi3⟩
       (try dsimp only); omega
     have hhb57 := of_decide_eq_false hb57
     refine go_skip ?_
     refine hK17 _ _ ?_
     refine q_reg [] [(0, pv fb), (1, iv v), (2, iv via), (43, u), (44, iv ((dartsL E L v).length : Int)), (45, iv (i + 1))] ((InR .i64 (i + 1)) ∧ TT ∧ True) hA H ⟨⟨by omega, by omega⟩, tv, tv⟩ fun a w63 hA H hG => ?_
     refine ⟨(i + 1, { s1 with low := (Deep.upd s1.low v (min (s1.low v) (s1.low (headE E ((dartsL E L v).getD i.toNat 0))))) }, ev2, iu2), ⟨env_sub _ hA, ⟨_, H⟩, ?_⟩, ?_⟩
     · (try dsimp only); exact ⟨by omega, by show 0 ≤ s1.cnt; omega, hk1 (by have q := hhb57; rw [Deep.upd_ne _ _ hhb24] at q; omega), hi2⟩
     (try dsimp only); omega
   have hhb37 := of_decide_eq_false hb37
   refine go_seq fun K64 hK64 => ?_
   refine q_draw [(138, (.slice (some ⟨mb, 0, none⟩) n.toNat n.toNat)), (141, iv (t.met (headE E ((dartsL E L v).getD i.toNat 0)))), (145, (.slice (some ⟨mb, 0, none⟩) n.toNat n.toNat)), (148, iv (t.met v))] [(0, pv fb), (1, iv v), (2, iv via), (8, iv (((dartsL E L v).getD i.toNat 0) / 2)), (9, iv (headE E ((dartsL E L v).getD i.toNat 0))), (43, u), (44, iv ((dartsL E L v).length : Int)), (45, iv i), (134, .bool (decide (t.met (headE E ((dartsL E L v).getD i.toNat 0)) < t.met v)))] (TT ∧ TT ∧ (0 < Try.prog.cellsOf 27) ∧ (CellOk (On w36) fb (0 + 3) ((.slice (some ⟨mb, 0, none⟩) n.toNat n.toNat))) ∧ TT ∧ ((Try.prog.info? 3).isSome = true ∧ IdxOk (.slice (some ⟨mb, 0, none⟩) n.toNat n.toNat) (headE E ((dartsL E L v).getD i.toNat 0))) ∧ (CellOk (On w36) mb (0 + (headE E ((dartsL E L v).getD i.toNat 0)).toNat * 1) (.int .i64 (t.met (headE E ((dartsL E L v).getD i.toNat 0))))) ∧ TT ∧ TT ∧ (0 < Try.prog.cellsOf 27) ∧ (CellOk (On w36) fb (0 + 3) ((.slice (some ⟨mb, 0, none⟩) n.toNat n.toNat))) ∧ TT ∧ ((Try.prog.info? 3).isSome = true ∧ IdxOk (.slice (some ⟨mb, 0, none⟩) n.toNat n.toNat) v) ∧ (CellOk (On w36) mb (0 + v.toNat * 1) (.int .i64 (t.met v))) ∧ TT ∧ TT ∧ True) hA H ⟨tv, tv, by decide +kernel, by exact box_cell H 0 rfl 3, tv, ⟨by kernel_rfl, arr_idx (by omega) (by omega)⟩, by exact arr_cell H 1 rfl (by omega) (by omega), tv, tv, by decide +kernel, by exact box_cell H 0 rfl 3, tv, ⟨by kernel_rfl, arr_idx (by omega) (by omega)⟩, by exact arr_cell H 1 rfl (by omega) (by omega), tv, tv, tv⟩ fun a w65 hA H hG => ?_
   refine hK64 _ _ ?_
   refine go_cond hA (.tmp 134) (decide (t.met (headE E ((dartsL E L v).getD i.toNat 0)) < t.met v)) (fun hb66 => ?_) (fun hb66 => ?_)
   · have hhb66 := of_decide_eq_true hb66
     refine go_seq fun K67 hK67 => ?_
     refine region_list ?_
     refine q_list 0 6 [(154, eu)] [(0, pv fb), (1, iv v), (2, iv via), (9, iv (headE E ((dartsL E L v).getD i.toNat 0))), (43, u), (44, iv ((dartsL E L v).length : Int)), (45, iv i), (150, pv fb), (154, eu), (155, iv (((dartsL E L v).getD i.toNat 0) / 2))] (TT ∧ TT ∧ TT ∧ (0 < Try.prog.cellsOf 27) ∧ (CellOk (On w65) fb (0 + 6) (eu)) ∧ TT ∧ True) hA H ⟨tv, tv, tv, by decide +kernel, by exact box_cell H 0 rfl 6, tv, tv⟩ fun a w68 hA H hG => ?_
     refine list_at 6 ?_; refine q_lit 6 156 27 1 #[(0, .tmp 155)] 3 [(0, iv (((dartsL E L v).getD i.toNat 0) / 2))] [.int .i64 (((dartsL E L v).getD i.toNat 0) / 2)] [(0, pv fb), (1, iv v), (2, iv via), (9, iv (headE E ((dartsL E L v).getD i.toNat 0))), (43, u), (44, iv ((dartsL E L v).length : Int)), (45, iv i), (150, pv fb), (154, eu)] hA H fun b69 a w70 H hA hG hge_b69 => ?_
     clear hge_b69
     refine list_at 7 ?_; refine q_push 7 157 (.tmp 154) (.tmp 156) 4 0 b69 1 1 eu t.stk [((dartsL E L v).getD i.toNat 0) / 2] [.int .i64 (((dartsL E L v).getD i.toNat 0) / 2)] [(0, pv fb), (1, iv v), (2, iv via), (9, iv (headE E ((dartsL E L v).getD i.toNat 0))), (43, u), (44, iv ((dartsL E L v).length : Int)), (45, iv i), (150, pv fb)] hA H Try.E27 rfl rfl (by exact (RowRd.single (α := Int) rfl)) rfl (by simp only [List.length_cons, List.length_nil, List.length_append]; omega) (by decide) fun v71 a w72 H hA hG => ?_
     replace H : Fr _ _ _ (.box fb 106 [.int .i64 n, ve, vd, (.slice (some ⟨mb, 0, none⟩) n.toNat n.toNat), (.slice (some ⟨lb, 0, none⟩) n.toNat n.toNat), .int .i64 t.cnt, eu, (.map (some pb))] :: .box mb 3 (arrV n fun j => .int .i64 (t.met j)) :: .box lb 3 (arrV n fun j => .int .i64 (t.low j)) :: .row 3 v71 (t.stk ++ [((dartsL E L v).getD i.toNat 0) / 2]) :: mapR Try.prog 3 pb iu :: .ro vd DL :: .ro u (dartsL E L v) :: tl) := H.drop 0
     refine q_list 8 2 [] [(0, pv fb), (1, iv v), (2, iv via), (9, iv (headE E ((dartsL E L v).getD i.toNat 0))), (43, u), (44, iv ((dartsL E L v).length : Int)), (45, iv i), (157, v71), (159, .pointer (some ⟨fb, 0 + 6, none⟩))] (TT ∧ (0 < Try.prog.cellsOf 27) ∧ True) hA H ⟨tv, by decide +kernel, tv⟩ fun a w73 hA H hG => ?_
     refine list_at 10 ?_; refine q_store 10 27 (.tmp 159) (.tmp 157) 0 fb (0 + 6) 106 [.int .i64 n, ve, vd, (.slice (some ⟨mb, 0, none⟩) n.toNat n.toNat), (.slice (some ⟨lb, 0, none⟩) n.toNat n.toNat), .int .i64 t.cnt, eu, (.map (some pb))] [v71] [.int .i64 n, ve, vd, (.slice (some ⟨mb, 0, none⟩) n.toNat n.toNat), (.slice (some ⟨lb, 0, none⟩) n.toNat n.toNat), .int .i64 t.cnt, v71, (.map (some pb))] v71 [(0, pv fb), (1, iv v), (2, iv via), (9, iv (headE E ((dartsL E L v).getD i.toNat 0))), (43, u), (44, iv ((dartsL E L v).length : Int)), (45, iv i)] hA H rfl (one_cells (rd_one (H.out 3 rfl))) (Nat.le_of_ble_eq_true (by kernel_rfl)) rfl (fun v hv => by simp only [List.mem_cons, List.not_mem_nil, or_false] at hv; rcases hv with rfl; exact (rd_one (H.out 3 rfl))) fun a w74 H hA hG => ?_
     replace H : Fr _ _ _ (.box fb 106 [.int .i64 n, ve, vd, (.slice (some ⟨mb, 0, none⟩) n.toNat n.toNat), (.slice (some ⟨lb, 0, none⟩) n.toNat n.toNat), .int .i64 t.cnt, v71, (.map (some pb))] :: .box mb 3 (arrV n fun j => .int .i64 (t.met j)) :: .box lb 3 (arrV n fun j => .int .i64 (t.low j)) :: .row 3 v71 (t.stk ++ [((dartsL E L v).getD i.toNat 0) / 2]) :: mapR Try.prog 3 pb iu :: .ro vd DL :: .ro u (dartsL E L v) :: tl) := H
     refine list_end ?_
     refine hK67 _ _ ?_
     have H0 := H
     have hM0 := H0.keeps none (.inl rfl)
     refine region_mix (But w74 none) [0, 1, 2, 3, 4, 5, 6, 7, 8, 9, 10, 11, 12, 13, 14, 15, 16, 17, 18, 19] 22 ?_
     replace H := H.drawn; have hD := But.drew w74 none
     generalize ({ w74 with drawn := w74.drawn + 1 } : World) = w75 at H hD ⊢
     refine m_take (n := 2) [0, 1, 2, 3, 4, 5, 6, 7, 8, 9, 10, 11, 12, 13, 14, 15, 16, 17, 18, 19] #[true, true, true, true, true, true, true, true, true, true, true, true, true, true, true, true, true, true, true, true, false, false] [(163, (.slice (some ⟨lb, 0, none⟩) n.toNat n.toNat)), (168, (.slice (some ⟨lb, 0, none⟩) n.toNat n.toNat)), (171, iv (t.low v)), (175, (.slice (some ⟨mb, 0, none⟩) n.toNat n.toNat)), (178, iv (t.met (headE E ((dartsL E L v).getD i.toNat 0)))), (179, iv (min (t.low v) (t.met (headE E ((dartsL E L v).getD i.toNat 0)))))] [(0, pv fb), (1, iv v), (2, iv via), (43, u), (44, iv ((dartsL E L v).length : Int)), (45, iv i), (163, (.slice (some ⟨lb, 0, none⟩) n.toNat n.toNat)), (164, iv v), (179, iv (min (t.low v) (t.met (headE E ((dartsL E L v).getD i.toNat 0)))))] (TT ∧ TT ∧ (0 < Try.prog.cellsOf 27) ∧ (CellOk (But w74 none) fb (0 + 4) ((.slice (some ⟨lb, 0, none⟩) n.toNat n.toNat))) ∧ TT ∧ TT ∧ TT ∧ (0 < Try.prog.cellsOf 27) ∧ (CellOk (But w74 none) fb (0 + 4) ((.slice (some ⟨lb, 0, none⟩) n.toNat n.toNat))) ∧ TT ∧ ((Try.prog.info? 3).isSome = true ∧ IdxOk (.slice (some ⟨lb, 0, none⟩) n.toNat n.toNat) v) ∧ (CellOk (But w74 none) lb (0 + v.toNat * 1) (.int .i64 (t.low v))) ∧ TT ∧ TT ∧ (0 < Try.prog.cellsOf 27) ∧ (CellOk (But w74 none) fb (0 + 3) ((.slice (some ⟨mb, 0, none⟩) n.toNat n.toNat))) ∧ TT ∧ ((Try.prog.info? 3).isSome = true ∧ IdxOk (.slice (some ⟨mb, 0, none⟩) n.toNat n.toNat) (headE E ((dartsL E L v).getD i.toNat 0))) ∧ (CellOk (But w74 none) mb (0 + (headE E ((dartsL E L v).getD i.toNat 0)).toNat * 1) (.int .i64 (t.met (headE E ((dartsL E L v).getD i.toNat 0))))) ∧ (∀ ty w, (Builtin.min_ #[3, 3] ty [.int .i64 (t.low v), .int .i64 (t.met (headE E ((dartsL E L v).getD i.toNat 0)))].toArray).run Try.prog w = .ok (.int .i64 (min (t.low v) (t.met (headE E ((dartsL E L v).getD i.toNat 0))))) w) ∧ True) hA hD ⟨tv, tv, by decide +kernel, by exact box_cellC (box_atC H0 none 0 rfl (fun e => by cases e)) 4, tv, tv, tv, by decide +kernel, by exact box_cellC (box_atC H0 none 0 rfl (fun e => by cases e)) 4, tv, ⟨by kernel_rfl, arr_idx (by omega) (by omega)⟩, by exact arr_cellC (box_atC H0 none 2 rfl (fun e => by cases e)) (by omega) (by omega), tv, tv, by decide +kernel, by exact box_cellC (box_atC H0 none 0 rfl (fun e => by cases e)) 3, tv, ⟨by kernel_rfl, arr_idx (by omega) (by omega)⟩, by exact arr_cellC (box_atC H0 none 1 rfl (fun e => by cases e)) (by omega) (by omega), fun ty w => min_ok ty w, tv⟩ fun a hA => ?_
     refine m_one 20 ?_; refine q_one 20 [] [(0, pv fb), (1, iv v), (2, iv via), (43, u), (44, iv ((dartsL E L v).length : Int)), (45, iv i), (179, iv (min (t.low v) (t.met (headE E ((dartsL E L v).getD i.toNat 0))))), (180, .pointer (some ⟨lb, 0 + v.toNat * 1, none⟩))] (((Try.prog.info? 3).isSome = true ∧ IdxOk (.slice (some ⟨lb, 0, none⟩) n.toNat n.toNat) v) ∧ True) hA H ⟨⟨by kernel_rfl, arr_idx (by omega) (by omega)⟩, tv⟩ fun a w76 H hA hG => ?_
     refine ⟨fun h => absurd h (by decide), ?_⟩
     refine m_one 21 ?_; refine q_store 21 3 (.tmp 180) (.tmp 179) 2 lb (0 + v.toNat * 1) 3 ((arrV n fun j => .int .i64 (t.low j))) [.int .i64 (min (t.low v) (t.met (headE E ((dartsL E L v).getD i.toNat 0))))] ((arrV n fun j => .int .i64 ((Deep.upd t.low v (min (t.low v) (t.met (headE E ((dartsL E L v).getD i.toNat 0))))) j))) (.int .i64 (min (t.low v) (t.met (headE E ((dartsL E L v).getD i.toNat 0))))) [(0, pv fb), (1, iv v), (2, iv via), (43, u), (44, iv ((dartsL E L v).length : Int)), (45, iv i)] hA H rfl rfl (arr_room (by omega) (by omega)) (arr_set (by omega) (by omega) (congrArg (Value.int .i64) (Deep.upd_same _ _ _)) (fun j hj => congrArg (Value.int .i64) (Deep.upd_ne _ _ hj))) (fun v hv => by simp only [List.mem_cons, List.not_mem_nil, or_false] at hv; rcases hv with rfl; exact rfl) fun a w77 H hA hG => ?_
     replace H : Fr _ _ _ (.box fb 106 [.int .i64 n, ve, vd, (.slice (some ⟨mb, 0, none⟩) n.toNat n.toNat), (.slice (some ⟨lb, 0, none⟩) n.toNat n.toNat), .int .i64 t.cnt, v71, (.map (some pb))] :: .box mb 3 (arrV n fun j => .int .i64 (t.met j)) :: .box lb 3 (arrV n fun j => .int .i64 ((Deep.upd t.low v (min (t.low v) (t.met (headE E ((dartsL E L v).getD i.toNat 0))))) j)) :: .row 3 v71 (t.stk ++ [((dartsL E L v).getD i.toNat 0) / 2]) :: mapR Try.prog 3 pb iu :: .ro vd DL :: .ro u (dartsL E L v) :: tl) := H
     refine ⟨fun h => absurd h (by decide), ?_⟩
     refine m_end ?_
     refine hK17 _ _ ?_
     refine q_reg [] [(0, pv fb), (1, iv v), (2, iv via), (43, u), (44, iv ((dartsL E L v).length : Int)), (45, iv (i + 1))] ((InR .i64 (i + 1)) ∧ TT ∧ True) hA H ⟨⟨by omega, by omega⟩, tv, tv⟩ fun a w78 hA H hG => ?_
     refine ⟨(i + 1, { t with stk := t.stk ++ [((dartsL E L v).getD i.toNat 0) / 2], low := Deep.upd t.low v (min (t.low v) (t.met (headE E ((dartsL E L v).getD i.toNat 0)))) }, v71, iu), ⟨env_sub _ hA, ⟨_, H⟩, ?_⟩, ?_⟩
     · (try dsimp only); exact ⟨by omega, hc, Deep.steps_back hst hhb24 hhb33 hhb37 hhb66, hit⟩
     (try dsimp only); omega
   have hhb66 := of_decide_eq_false hb66
   refine go_skip ?_
   refine hK17 _ _ ?_
   refine q_reg [] [(0, pv fb), (1, iv v), (2, iv via), (43, u), (44, iv ((dartsL E L v).length : Int)), (45, iv (i + 1))] ((InR .i64 (i + 1)) ∧ TT ∧ True) hA H ⟨⟨by omega, by omega⟩, tv, tv⟩ fun a w79 hA H hG => ?_
   refine ⟨(i + 1, t, eu, iu), ⟨env_sub _ hA, ⟨_, H⟩, ?_⟩, ?_⟩
   · (try dsimp only); exact ⟨by omega, hc, Deep.steps_skip hst hhb24 hhb33 hhb37 hhb66, hit⟩
   (try dsimp only); omega
 have hhb16 := of_decide_eq_false hb16
 refine go_exit 0 ?_
 refine ret_noneN (P := Try.prog) (fn := Try.f102) (R := (FinQ n ve vd DL fb mb lb pb s' tl o w)) hA ?_
 rw [drop_end (by omega)] at hst; cases Deep.steps_nil hst
 replace H := H.drop 6
 exact ⟨rfl, _, _, _, H, hit⟩
theorem visit_any (n : Int) (ve : Value) (E : List (Int × Int)) (L : List Int) (vd : Value) (DL : List (List Int)) (fb mb lb pb : Nat) (o : Orig)  (hr : rightE n E = 0) (hL : risesP L (E.length : Int)) (hE : Rd (· < o.w.heap.size) o.w ve E) (hDL : ∀ x, 0 ≤ x → x < n → DL.getD x.toNat [] = dartsL E L x) (hDLn : (DL.length : Int) = n) : ∀ (h : Nat) (w : World) (S : Stab) (s s' : Deep.St) (v via : Int) (ev : Value) (ins : List (Int × Value × List Int)) (tl : List Res), Deep.Visit (dartsL E L) (headE E) h v via s s' → Deep.Bd s' → 0 ≤ s.cnt → 0 ≤ v → v < n → Fr o w S (finR n ve vd DL fb mb lb pb s ev ins tl) → insOf ins = s.ins → Calls Try.prog 102 [.pointer (some ⟨fb, 0, none⟩), .int .i64 v, .int .i64 via].toArray w (FinQ n ve vd DL fb mb lb pb s' tl o w) := by
 intro h
 induction h with
 | zero => intro w S s s' v via ev ins tl hv; exact hv.elim
 | succ h ih =>
   intro w S s s' v via ev ins tl hv hb hc0 hv0 hv1 hH hi
   exact visit_step n ve E L vd DL fb mb lb pb h o S s ev ins tl s' v via w hr hL hE hDL hDLn ih hv hb hc0 hv0 hv1 hH hi
theorem find_any (n : Int) (ve : Value) (E : List (Int × Int)) (vv vl : Value) (V L : List Int) (o : Orig) (S : Stab) (s' : Deep.St) (tl : List Res) (w : World) (hpt : partE n E V L = 0) (hE : Rd (· < o.w.heap.size) o.w ve E) (hV : Rd (· < o.w.heap.size) o.w vv V) (hL : Rd (· < o.w.heap.size) o.w vl L) (hH : Fr o w S tl) (hroots : Deep.Roots (dartsL E L) (headE E) V Deep.St.zero s') (hb : Deep.Bd s') :
 Calls Try.prog 80 [.agg #[.int .i64 n, ve], .agg #[vv, vl]].toArray w (fun e w' => ∃ fb mb lb pb vd DL S ev ins, e = .returned (.pointer (some ⟨fb, 0, none⟩)) ∧ Fr o w' S (finR n ve vd DL fb mb lb pb s' ev ins tl) ∧ insOf ins = s'.ins) := by
 obtain ⟨hp1, hp2, hp3, hp4⟩ := partE_0 hpt
 have hr9 := rightE_0 hp1
 have hl9 := rises_len hp3 (by omega)
 have hv9 := rises_len hp2 (by omega)
 refine enter Try.f80 100 Try.func80 fun a hA => ?_
 replace hA := env_sub [(0, .agg #[.int .i64 n, ve]), (1, .agg #[vv, vl])] hA
 have H := hH
 refine go_seq fun K1 hK1 => ?_
 refine region_list ?_
 refine list_at 0 ?_; refine q_box 0 2 24 (.tmp 0) (.agg #[.int .i64 n, ve]) [.int .i64 n, ve] [(1, .agg #[vv, vl])] hA H fun b2 a w3 H hA hG hge_b2 => ?_
 clear hge_b2
 refine list_at 1 ?_; refine q_box 1 3 29 (.tmp 1) (.agg #[vv, vl]) [vv, vl] [(2, pv b2)] hA H fun b4 a w5 H hA hG hge_b4 => ?_
 clear hge_b4
 refine q_list 2 1 [] [(2, pv b2), (3, pv b4)] (TT ∧ True) hA H ⟨tv, tv⟩ fun a w6 hA H hG => ?_
 refine list_end ?_
 refine hK1 _ _ ?_
 refine go_seq fun K7 hK7 => ?_
 have H0 := H
 have hM0 := H0.keeps none (.inl rfl)
 refine region_mix (But w6 none) [0, 1, 2, 3, 4, 5, 6, 7, 8, 9, 10, 11, 12] 14 ?_
 replace H := H.drawn; have hD := But.drew w6 none
 generalize ({ w6 with drawn := w6.drawn + 1 } : World) = w8 at H hD ⊢
 refine m_take (n := 7) [0, 1, 2, 4, 5, 7, 8] #[true, true, true, false, true, true, false, true, true, false, false, false, false, false] [(12, .agg #[.int .i64 n, ve]), (14, iv n), (17, iv n), (20, iv n)] [(2, pv b2), (3, pv b4), (12, .agg #[.int .i64 n, ve]), (14, iv n), (17, iv n), (20, iv n)] (((Try.prog.info? 24).isSome = true ∧ RowOk (But w6 none) b2 (0) (Try.prog.cellsOf 24) #[.int .i64 n, ve]) ∧ (0 < Try.prog.cellsOf 3) ∧ (CellOk (But w6 none) b2 (0 + 0) (.int .i64 n)) ∧ (0 < Try.prog.cellsOf 3) ∧ (CellOk (But w6 none) b2 (0 + 0) (.int .i64 n)) ∧ (0 < Try.prog.cellsOf 3) ∧ (CellOk (But w6 none) b2 (0 + 0) (.int .i64 n)) ∧ True) hA hD ⟨⟨by kernel_rfl, by exact box_rowC (box_atC H0 none 1 rfl (fun e => by cases e)) 0 2⟩, by decide +kernel, by exact box_cellC (box_atC H0 none 1 rfl (fun e => by cases e)) 0, by decide +kernel, by exact box_cellC (box_atC H0 none 1 rfl (fun e => by cases e)) 0, by decide +kernel, by exact box_cellC (box_atC H0 none 1 rfl (fun e => by cases e)) 0, tv⟩ fun a hA => ?_
 refine mix_gen fun M hM => ?_
 have hM75 : ∀ (a : Act) (w92 : World) (S : Stab) (b9 : Nat) (hge_b9 : w6.heap.size ≤ b9) (b17 : Nat) (hge_b17 : w6.heap.size ≤ b17) (b41 : Nat) (hge_b41 : w6.heap.size ≤ b41) (b65 : Nat) (hge_b65 : w6.heap.size ≤ b65) (b73 : Nat) (hge_b73 : w6.heap.size ≤ b73), EnvOk 100 a (keepEnv [(2, pv b2), (3, pv b4), (24, pv b73)]) → Fr o w92 S (.box b73 106 [.int .i64 n, ve, (.slice (some ⟨b9, 0, none⟩) n.toNat n.toNat), (.slice (some ⟨b17, 0, none⟩) n.toNat n.toNat), (.slice (some ⟨b41, 0, none⟩) n.toNat n.toNat), .int .i64 0, (.slice none 0 0), (.map (some b65))] :: mapR Try.prog 3 (α := List (Int)) b65 [] :: .box b41 3 (arrV n fun j => .int .i64 (Deep.St.zero.low j)) :: .box b17 3 (arrV n fun j => .int .i64 (Deep.St.zero.met j)) :: .box b9 27 (arrV n (fun _ => .slice none 0 0)) :: .box b4 29 [vv, vl] :: .box b2 24 [.int .i64 n, ve] :: tl) → But w6 none w92 → M 1 #[true, true, true, true, true, true, true, true, true, true, true, true, true, false] a w92 := by
   intro a w92 S b9 hge_b9 b17 hge_b17 b41 hge_b41 b65 hge_b65 b73 hge_b73 hA H hD
   refine (hM _ _ _ _).2 ?_
   refine m_one 13 ?_; refine q_one 13 [] [(2, pv b2), (3, pv b4), (5, pv b73)] (TT ∧ True) hA H ⟨tv, tv⟩ fun a w93 H hA hG => ?_
   refine ⟨fun h => absurd h (by decide), ?_⟩
   refine m_end ?_
   refine hK7 _ _ ?_
   refine go_seq fun K94 hK94 => ?_
   refine go_seq fun K95 hK95 => ?_
   replace H := H.newRow (α := Int) 3
   replace H := Fr.order [.row 3 (.slice none 0 0) ([] : List Int), .box b73 106 [.int .i64 n, ve, (.slice (some ⟨b9, 0, none⟩) n.toNat n.toNat), (.slice (some ⟨b17, 0, none⟩) n.toNat n.toNat), (.slice (some ⟨b41, 0, none⟩) n.toNat n.toNat), .int .i64 0, (.slice none 0 0), (.map (some b65))], mapR Try.prog 3 (α := List (Int)) b65 [], .box b41 3 (arrV n fun j => .int .i64 (Deep.St.zero.low j)), .box b17 3 (arrV n fun j => .int .i64 (Deep.St.zero.met j)), .box b9 27 (arrV n (fun _ => .slice none 0 0)), .box b4 29 [vv, vl], .box b2 24 [.int .i64 n, ve]] tl H [1, 4, 3, 0, 2, 5, 6, 7] (by show List.Perm _ (List.range 8); decide)
   replace H : Fr _ _ _ (.box b73 106 [.int .i64 n, ve, (.slice (some ⟨b9, 0, none⟩) n.toNat n.toNat), (.slice (some ⟨b17, 0, none⟩) n.toNat n.toNat), (.slice (some ⟨b41, 0, none⟩) n.toNat n.toNat), .int .i64 0, (.slice none 0 0), (.map (some b65))] :: .box b17 3 (arrV n fun j => .int .i64 (Deep.St.zero.met j)) :: .box b41 3 (arrV n fun j => .int .i64 (Deep.St.zero.low j)) :: .row 3 (.slice none 0 0) ([] : List Int) :: mapR Try.prog 3 (α := List (Int)) b65 [] :: .box b9 27 (arrV n (fun _ => .slice none 0 0)) :: .box b4 29 [vv, vl] :: .box b2 24 [.int .i64 n, ve] :: tl) := H
   replace H := rows_new ([.box b73 106 [.int .i64 n, ve, (.slice (some ⟨b9, 0, none⟩) n.toNat n.toNat), (.slice (some ⟨b17, 0, none⟩) n.toNat n.toNat), (.slice (some ⟨b41, 0, none⟩) n.toNat n.toNat), .int .i64 0, (.slice none 0 0), (.map (some b65))], .box b17 3 (arrV n fun j => .int .i64 (Deep.St.zero.met j)), .box b41 3 (arrV n fun j => .int .i64 (Deep.St.zero.low j)), .row 3 (.slice none 0 0) ([] : List Int), mapR Try.prog 3 (α := List (Int)) b65 [], .box b9 27 (arrV n (fun _ => .slice none 0 0)), .box b4 29 [vv, vl], .box b2 24 [.int .i64 n, ve]] ++ tl) H n
   replace H : Fr _ _ _ (.box b73 106 [.int .i64 n, ve, (.slice (some ⟨b9, 0, none⟩) n.toNat n.toNat), (.slice (some ⟨b17, 0, none⟩) n.toNat n.toNat), (.slice (some ⟨b41, 0, none⟩) n.toNat n.toNat), .int .i64 0, (.slice none 0 0), (.map (some b65))] :: .box b17 3 (arrV n fun j => .int .i64 (Deep.St.zero.met j)) :: .box b41 3 (arrV n fun j => .int .i64 (Deep.St.zero.low j)) :: .row 3 (.slice none 0 0) ([] : List Int) :: mapR Try.prog 3 (α := List (Int)) b65 [] :: .box b9 27 (arrV n (fun _ => .slice none 0 0)) :: .box b4 29 [vv, vl] :: .box b2 24 [.int .i64 n, ve] :: (tl ++ rowsT n (fun _ => .slice none 0 0) (fun _ => []))) := H
   refine q_reg [(26, vl), (27, iv (L.length : Int))] [(2, pv b2), (3, pv b4), (5, pv b73), (26, vl), (27, iv (L.length : Int)), (28, iv 0)] ((0 < Try.prog.cellsOf 27) ∧ (CellOk (On w93) b4 (0 + 1) (vl)) ∧ (LenOk vl (L.length : Int)) ∧ TT ∧ True) hA H ⟨by decide +kernel, by exact box_cell H 6 rfl 1, by exact len_ok (H.arg hL), tv, tv⟩ fun a w96 hA H hG => ?_
   refine hK95 _ _ ?_
   refine go_block 0 ?_
   refine go_loop_ (Int × (Int → Value) × (Int → List Int)) (fun x_ a W => (fun (i : Int) (vs : (Int → Value)) (ls : (Int → List Int)) => EnvOk 100 a (keepEnv [(2, pv b2), (3, pv b4), (5, pv b73), (26, vl), (27, iv (L.length : Int)), (28, iv i)]) ∧ (∃ S, Fr o W S (.box b73 106 [.int .i64 n, ve, (.slice (some ⟨b9, 0, none⟩) n.toNat n.toNat), (.slice (some ⟨b17, 0, none⟩) n.toNat n.toNat), (.slice (some ⟨b41, 0, none⟩) n.toNat n.toNat), .int .i64 0, (.slice none 0 0), (.map (some b65))] :: .box b17 3 (arrV n fun j => .int .i64 (Deep.St.zero.met j)) :: .box b41 3 (arrV n fun j => .int .i64 (Deep.St.zero.low j)) :: .row 3 (.slice none 0 0) ([] : List Int) :: mapR Try.prog 3 (α := List (Int)) b65 [] :: .box b9 27 (arrV n vs) :: .box b4 29 [vv, vl] :: .box b2 24 [.int .i64 n, ve] :: (tl ++ rowsT n vs ls))) ∧ 0 ≤ i ∧ (∀ x, 0 ≤ x → x < n → ls x = dartsL E (L.take i.toNat) x) ∧ ∀ x, ((ls x).length : Int) ≤ 2 * i) x_.1 x_.2.1 x_.2.2) (fun x_ => (fun (i : Int) (vs : (Int → Value)) (ls : (Int → List Int)) => ((L.length : Int) - i).toNat) x_.1 x_.2.1 x_.2.2) (0, (fun _ => .slice none 0 0), (fun _ => [])) ?_ (fun x_ a w98 hI => ?_)
   · (try dsimp only); exact ⟨env_sub _ hA, ⟨_, H⟩, by omega, fun x _ _ => rfl, fun x => by simp⟩
   obtain ⟨i, vs, ls⟩ := x_
   obtain ⟨hA, ⟨S, H⟩, h0, hls, hll⟩ := hI
   try dsimp only at h0 hls hll
   replace H : Fr _ _ _ (.box b73 106 [.int .i64 n, ve, (.slice (some ⟨b9, 0, none⟩) n.toNat n.toNat), (.slice (some ⟨b17, 0, none⟩) n.toNat n.toNat), (.slice (some ⟨b41, 0, none⟩) n.toNat n.toNat), .int .i64 0, (.slice none 0 0), (.map (some b65))] :: .box b17 3 (arrV n fun j => .int .i64 (Deep.St.zero.met j)) :: .box b41 3 (arrV n fun j => .int .i64 (Deep.St.zero.low j)) :: .row 3 (.slice none 0 0) ([] : List Int) :: mapR Try.prog 3 (α := List (Int)) b65 [] :: .box b9 27 (arrV n vs) :: .box b4 29 [vv, vl] :: .box b2 24 [.int .i64 n, ve] :: (tl ++ rowsT n vs ls)) := H
   refine go_seq fun K99 hK99 => ?_
   refine q_reg [] [(2, pv b2), (3, pv b4), (5, pv b73), (26, vl), (27, iv (L.length : Int)), (28, iv i), (29, .bool (decide (i < (L.length : Int))))] (TT ∧ True) hA H ⟨tv, tv⟩ fun a w100 hA H hG => ?_
   refine hK99 _ _ ?_
   refine go_seq fun K101 hK101 => ?_
   refine go_cond hA (.tmp 29) (decide (i < (L.length : Int))) (fun hb102 => ?_) (fun hb102 => ?_)
   · have hhb102 := of_decide_eq_true hb102
     refine go_skip ?_
     refine hK101 _ _ ?_
     refine go_seq fun K103 hK103 => ?_
     refine go_block 1 ?_
     refine go_seq fun K104 hK104 => ?_
     refine q_reg [(31, iv (L.getD i.toNat 0))] [(2, pv b2), (3, pv b4), (5, pv b73), (7, iv (L.getD i.toNat 0)), (26, vl), (27, iv (L.length : Int)), (28, iv i)] (((Try.prog.info? 3).isSome = true ∧ IdxOk vl i) ∧ (CellOk (On w100) (hdB vl) (hdO vl + i.toNat * 1) (.int .i64 (L.getD i.toNat 0))) ∧ TT ∧ True) hA H ⟨⟨by kernel_rfl, by exact idx_ok (H.arg hL) (by omega) (by omega)⟩, by exact cell_flat (i := i) (H.arg hL) (by omega) (by omega) 0 0, tv, tv⟩ fun a w105 hA H hG => ?_
     refine hK104 _ _ ?_
     refine go_seq fun K106 hK106 => ?_
     have hx := hp3 i.toNat (by omega)
     have hok := okEs_at hr9.2.2.2 hx.1 hx.2.1
     unfold okE at hok
     refine q_draw [(33, ve), (37, iv ((E.getD (L.getD i.toNat 0).toNat (0, 0)).1)), (39, ve), (43, iv ((E.getD (L.getD i.toNat 0).toNat (0, 0)).2))] [(2, pv b2), (3, pv b4), (5, pv b73), (7, iv (L.getD i.toNat 0)), (8, iv ((E.getD (L.getD i.toNat 0).toNat (0, 0)).1)), (9, iv ((E.getD (L.getD i.toNat 0).toNat (0, 0)).2)), (26, vl), (27, iv (L.length : Int)), (28, iv i)] ((0 < Try.prog.cellsOf 22) ∧ (CellOk (On w105) b2 (0 + 1) (ve)) ∧ TT ∧ ((Try.prog.info? 99).isSome = true ∧ IdxOk ve (L.getD i.toNat 0)) ∧ (0 < Try.prog.cellsOf 3) ∧ (CellOk (On w105) (hdB ve) (hdO ve + (L.getD i.toNat 0).toNat * 2 + 0) (.int .i64 ((E.getD (L.getD i.toNat 0).toNat (0, 0)).1))) ∧ (0 < Try.prog.cellsOf 22) ∧ (CellOk (On w105) b2 (0 + 1) (ve)) ∧ TT ∧ ((Try.prog.info? 99).isSome = true ∧ IdxOk ve (L.getD i.toNat 0)) ∧ (0 < Try.prog.cellsOf 3) ∧ (CellOk (On w105) (hdB ve) (hdO ve + (L.getD i.toNat 0).toNat * 2 + 1) (.int .i64 ((E.getD (L.getD i.toNat 0).toNat (0, 0)).2))) ∧ TT ∧ TT ∧ True) hA H ⟨by decide +kernel, by exact box_cell H 7 rfl 1, tv, ⟨by kernel_rfl, by exact idx_ok (H.arg hE) (by omega) (by omega)⟩, by decide +kernel, by exact cell_flat (i := (L.getD i.toNat 0)) (H.arg hE) (by omega) (by omega) (0, 0) 0, by decide +kernel, by exact box_cell H 7 rfl 1, tv, ⟨by kernel_rfl, by exact idx_ok (H.arg hE) (by omega) (by omega)⟩, by decide +kernel, by exact cell_flat (i := (L.getD i.toNat 0)) (H.arg hE) (by omega) (by omega) (0, 0) 1, tv, tv, tv⟩ fun a w107 hA H hG => ?_
     refine hK106 _ _ ?_
     refine go_seq fun K108 hK108 => ?_
     generalize ha9 : (E.getD (L.getD i.toNat 0).toNat (0, 0)).1 = ua at hA hok
     generalize hb9 : (E.getD (L.getD i.toNat 0).toNat (0, 0)).2 = ub at hA hok
     have hlla := hll ua
     replace H := rows_out (a := ua) ([.box b73 106 [.int .i64 n, ve, (.slice (some ⟨b9, 0, none⟩) n.toNat n.toNat), (.slice (some ⟨b17, 0, none⟩) n.toNat n.toNat), (.slice (some ⟨b41, 0, none⟩) n.toNat n.toNat), .int .i64 0, (.slice none 0 0), (.map (some b65))], .box b17 3 (arrV n fun j => .int .i64 (Deep.St.zero.met j)), .box b41 3 (arrV n fun j => .int .i64 (Deep.St.zero.low j)), .row 3 (.slice none 0 0) ([] : List Int), mapR Try.prog 3 (α := List (Int)) b65 [], .box b9 27 (arrV n vs), .box b4 29 [vv, vl], .box b2 24 [.int .i64 n, ve]] ++ tl) H (by omega) (by omega)
     replace H : Fr _ _ _ (.row 3 (vs ua) (ls ua) :: .box b73 106 [.int .i64 n, ve, (.slice (some ⟨b9, 0, none⟩) n.toNat n.toNat), (.slice (some ⟨b17, 0, none⟩) n.toNat n.toNat), (.slice (some ⟨b41, 0, none⟩) n.toNat n.toNat), .int .i64 0, (.slice none 0 0), (.map (some b65))] :: .box b17 3 (arrV n fun j => .int .i64 (Deep.St.zero.met j)) :: .box b41 3 (arrV n fun j => .int .i64 (Deep.St.zero.low j)) :: .row 3 (.slice none 0 0) ([] : List Int) :: mapR Try.prog 3 (α := List (Int)) b65 [] :: .box b9 27 (arrV n vs) :: .box b4 29 [vv, vl] :: .box b2 24 [.int .i64 n, ve] :: (tl ++ (rowsT n vs ls).eraseIdx ua.toNat)) := H
     have H0 := H
     have hM0 := H0.keeps ((vs ua).ownBlock) (.inr ⟨_, List.mem_of_getElem? (i := 0) rfl, rfl⟩)
     refine region_mix (But w107 ((vs ua).ownBlock)) [0, 1, 2, 3, 4, 5, 6, 7, 8, 9, 10, 11, 12, 13, 14, 15] 18 ?_
     replace H := H.drawn; have hD := But.drew w107 ((vs ua).ownBlock)
     generalize ({ w107 with drawn := w107.drawn + 1 } : World) = w109 at H hD ⊢
     refine m_take (n := 4) [0, 1, 2, 3, 4, 5, 6, 7, 8, 9, 10, 11, 12, 13] #[true, true, true, true, true, true, true, true, true, true, true, true, true, true, false, false, false, false] [(47, (.slice (some ⟨b9, 0, none⟩) n.toNat n.toNat)), (52, (.slice (some ⟨b9, 0, none⟩) n.toNat n.toNat)), (55, (vs ua))] [(2, pv b2), (3, pv b4), (5, pv b73), (7, iv (L.getD i.toNat 0)), (9, iv ub), (26, vl), (27, iv (L.length : Int)), (28, iv i), (47, (.slice (some ⟨b9, 0, none⟩) n.toNat n.toNat)), (48, iv ua), (55, (vs ua)), (57, iv (2 * (L.getD i.toNat 0)))] (TT ∧ TT ∧ (0 < Try.prog.cellsOf 67) ∧ (CellOk (But w107 ((vs ua).ownBlock)) b73 (0 + 2) ((.slice (some ⟨b9, 0, none⟩) n.toNat n.toNat))) ∧ TT ∧ TT ∧ TT ∧ (0 < Try.prog.cellsOf 67) ∧ (CellOk (But w107 ((vs ua).ownBlock)) b73 (0 + 2) ((.slice (some ⟨b9, 0, none⟩) n.toNat n.toNat))) ∧ TT ∧ ((Try.prog.info? 27).isSome = true ∧ IdxOk (.slice (some ⟨b9, 0, none⟩) n.toNat n.toNat) ua) ∧ (CellOk (But w107 ((vs ua).ownBlock)) b9 (0 + ua.toNat * 1) ((vs ua))) ∧ TT ∧ (InR .i64 (2 * (L.getD i.toNat 0))) ∧ True) hA hD ⟨tv, tv, by decide +kernel, by exact box_cellC (box_atC H0 ((vs ua).ownBlock) 1 rfl (H0.apart 1 0 (by decide) rfl rfl rfl)) 2, tv, tv, tv, by decide +kernel, by exact box_cellC (box_atC H0 ((vs ua).ownBlock) 1 rfl (H0.apart 1 0 (by decide) rfl rfl rfl)) 2, tv, ⟨by kernel_rfl, arr_idx (by omega) (by omega)⟩, by exact arr_cellC (box_atC H0 ((vs ua).ownBlock) 6 rfl (H0.apart 6 0 (by decide) rfl rfl rfl)) (by omega) (by omega), tv, ⟨by omega, by omega⟩, tv⟩ fun a hA => ?_
     refine m_one 14 ?_; refine q_lit 14 58 27 1 #[(0, .tmp 57)] 3 [(0, iv (2 * (L.getD i.toNat 0)))] [.int .i64 (2 * (L.getD i.toNat 0))] [(2, pv b2), (3, pv b4), (5, pv b73), (7, iv (L.getD i.toNat 0)), (9, iv ub), (26, vl), (27, iv (L.length : Int)), (28, iv i), (47, (.slice (some ⟨b9, 0, none⟩) n.toNat n.toNat)), (48, iv ua), (55, (vs ua))] hA H fun b110 a w111 H hA hG hge_b110 => ?_
     replace hge_b110 := Nat.le_trans hD.1 hge_b110
     replace hD := hD.below hG
     refine ⟨fun _ => hD, ?_⟩
     refine m_one 15 ?_; refine q_push 15 59 (.tmp 55) (.tmp 58) 1 0 b110 1 1 (vs ua) (ls ua) [2 * (L.getD i.toNat 0)] [.int .i64 (2 * (L.getD i.toNat 0))] [(2, pv b2), (3, pv b4), (5, pv b73), (7, iv (L.getD i.toNat 0)), (9, iv ub), (26, vl), (27, iv (L.length : Int)), (28, iv i), (47, (.slice (some ⟨b9, 0, none⟩) n.toNat n.toNat)), (48, iv ua)] hA H Try.E27 rfl rfl (by exact (RowRd.single (α := Int) rfl)) rfl (by simp only [List.length_cons, List.length_nil, List.length_append]; omega) (by decide) fun v112 a w113 H hA hG => ?_
     replace H : Fr _ _ _ (.row 3 v112 ((ls ua) ++ [2 * (L.getD i.toNat 0)]) :: .box b73 106 [.int .i64 n, ve, (.slice (some ⟨b9, 0, none⟩) n.toNat n.toNat), (.slice (some ⟨b17, 0, none⟩) n.toNat n.toNat), (.slice (some ⟨b41, 0, none⟩) n.toNat n.toNat), .int .i64 0, (.slice none 0 0), (.map (some b65))] :: .box b17 3 (arrV n fun j => .int .i64 (Deep.St.zero.met j)) :: .box b41 3 (arrV n fun j => .int .i64 (Deep.St.zero.low j)) :: .row 3 (.slice none 0 0) ([] : List Int) :: mapR Try.prog 3 (α := List (Int)) b65 [] :: .box b9 27 (arrV n vs) :: .box b4 29 [vv, vl] :: .box b2 24 [.int .i64 n, ve] :: (tl ++ (rowsT n vs ls).eraseIdx ua.toNat)) := H.drop 0
     replace hD := hD.grown hG (fun b hb => .inl hb.symm)
     refine ⟨fun _ => hD, ?_⟩
     refine m_one 16 ?_; refine q_one 16 [] [(2, pv b2), (3, pv b4), (5, pv b73), (7, iv (L.getD i.toNat 0)), (9, iv ub), (26, vl), (27, iv (L.length : Int)), (28, iv i), (59, v112), (60, .pointer (some ⟨b9, 0 + ua.toNat * 1, none⟩))] (((Try.prog.info? 27).isSome = true ∧ IdxOk (.slice (some ⟨b9, 0, none⟩) n.toNat n.toNat) ua) ∧ True) hA H ⟨⟨by kernel_rfl, arr_idx (by omega) (by omega)⟩, tv⟩ fun a w114 H hA hG => ?_
     refine ⟨fun h => absurd h (by decide), ?_⟩
     refine m_one 17 ?_; refine q_store 17 27 (.tmp 60) (.tmp 59) 6 b9 (0 + ua.toNat * 1) 27 ((arrV n vs)) [v112] ((arrV n (updF vs ua v112))) v112 [(2, pv b2), (3, pv b4), (5, pv b73), (7, iv (L.getD i.toNat 0)), (9, iv ub), (26, vl), (27, iv (L.length : Int)), (28, iv i)] hA H rfl (one_cells (rd_one (H.out 0 rfl))) (arr_room (by omega) (by omega)) (arr_set (by omega) (by omega) (updF_same _ _ _) (fun j hj => updF_ne _ _ hj)) (fun v hv => by simp only [List.mem_cons, List.not_mem_nil, or_false] at hv; rcases hv with rfl; exact (rd_one (H.out 0 rfl))) fun a w115 H hA hG => ?_
     replace H : Fr _ _ _ (.row 3 v112 ((ls ua) ++ [2 * (L.getD i.toNat 0)]) :: .box b73 106 [.int .i64 n, ve, (.slice (some ⟨b9, 0, none⟩) n.toNat n.toNat), (.slice (some ⟨b17, 0, none⟩) n.toNat n.toNat), (.slice (some ⟨b41, 0, none⟩) n.toNat n.toNat), .int .i64 0, (.slice none 0 0), (.map (some b65))] :: .box b17 3 (arrV n fun j => .int .i64 (Deep.St.zero.met j)) :: .box b41 3 (arrV n fun j => .int .i64 (Deep.St.zero.low j)) :: .row 3 (.slice none 0 0) ([] : List Int) :: mapR Try.prog 3 (α := List (Int)) b65 [] :: .box b9 27 (arrV n (updF vs ua v112)) :: .box b4 29 [vv, vl] :: .box b2 24 [.int .i64 n, ve] :: (tl ++ (rowsT n vs ls).eraseIdx ua.toNat)) := H
     refine ⟨fun h => absurd h (by decide), ?_⟩
     refine m_end ?_
     refine hK108 _ _ ?_
     replace H := rows_in (a := ua) ([.box b73 106 [.int .i64 n, ve, (.slice (some ⟨b9, 0, none⟩) n.toNat n.toNat), (.slice (some ⟨b17, 0, none⟩) n.toNat n.toNat), (.slice (some ⟨b41, 0, none⟩) n.toNat n.toNat), .int .i64 0, (.slice none 0 0), (.map (some b65))], .box b17 3 (arrV n fun j => .int .i64 (Deep.St.zero.met j)), .box b41 3 (arrV n fun j => .int .i64 (Deep.St.zero.low j)), .row 3 (.slice none 0 0) ([] : List Int), mapR Try.prog 3 (α := List (Int)) b65 [], .box b9 27 (arrV n (updF vs ua v112)), .box b4 29 [vv, vl], .box b2 24 [.int .i64 n, ve]] ++ tl) H (by omega) (by omega)
     replace H : Fr _ _ _ (.box b73 106 [.int .i64 n, ve, (.slice (some ⟨b9, 0, none⟩) n.toNat n.toNat), (.slice (some ⟨b17, 0, none⟩) n.toNat n.toNat), (.slice (some ⟨b41, 0, none⟩) n.toNat n.toNat), .int .i64 0, (.slice none 0 0), (.map (some b65))] :: .box b17 3 (arrV n fun j => .int .i64 (Deep.St.zero.met j)) :: .box b41 3 (arrV n fun j => .int .i64 (Deep.St.zero.low j)) :: .row 3 (.slice none 0 0) ([] : List Int) :: mapR Try.prog 3 (α := List (Int)) b65 [] :: .box b9 27 (arrV n (updF vs ua v112)) :: .box b4 29 [vv, vl] :: .box b2 24 [.int .i64 n, ve] :: (tl ++ rowsT n (updF vs ua v112) (updF ls ua ((ls ua) ++ [2 * (L.getD i.toNat 0)])))) := H
     have hllb : (((updF ls ua ((ls ua) ++ [2 * (L.getD i.toNat 0)])) ub).length : Int) ≤ 2 * i + 1 := by unfold updF; split <;> (try simp only [List.length_append, List.length_cons, List.length_nil]) <;> (have := hll ua; have := hll ub; omega)
     replace H := rows_out (a := ub) ([.box b73 106 [.int .i64 n, ve, (.slice (some ⟨b9, 0, none⟩) n.toNat n.toNat), (.slice (some ⟨b17, 0, none⟩) n.toNat n.toNat), (.slice (some ⟨b41, 0, none⟩) n.toNat n.toNat), .int .i64 0, (.slice none 0 0), (.map (some b65))], .box b17 3 (arrV n fun j => .int .i64 (Deep.St.zero.met j)), .box b41 3 (arrV n fun j => .int .i64 (Deep.St.zero.low j)), .row 3 (.slice none 0 0) ([] : List Int), mapR Try.prog 3 (α := List (Int)) b65 [], .box b9 27 (arrV n (updF vs ua v112)), .box b4 29 [vv, vl], .box b2 24 [.int .i64 n, ve]] ++ tl) H (by omega) (by omega)
     replace H : Fr _ _ _ (.row 3 ((updF vs ua v112) ub) ((updF ls ua ((ls ua) ++ [2 * (L.getD i.toNat 0)])) ub) :: .box b73 106 [.int .i64 n, ve, (.slice (some ⟨b9, 0, none⟩) n.toNat n.toNat), (.slice (some ⟨b17, 0, none⟩) n.toNat n.toNat), (.slice (some ⟨b41, 0, none⟩) n.toNat n.toNat), .int .i64 0, (.slice none 0 0), (.map (some b65))] :: .box b17 3 (arrV n fun j => .int .i64 (Deep.St.zero.met j)) :: .box b41 3 (arrV n fun j => .int .i64 (Deep.St.zero.low j)) :: .row 3 (.slice none 0 0) ([] : List Int) :: mapR Try.prog 3 (α := List (Int)) b65 [] :: .box b9 27 (arrV n (updF vs ua v112)) :: .box b4 29 [vv, vl] :: .box b2 24 [.int .i64 n, ve] :: (tl ++ (rowsT n (updF vs ua v112) (updF ls ua ((ls ua) ++ [2 * (L.getD i.toNat 0)]))).eraseIdx ub.toNat)) := H
     have H0 := H
     have hM0 := H0.keeps (((updF vs ua v112) ub).ownBlock) (.inr ⟨_, List.mem_of_getElem? (i := 0) rfl, rfl⟩)
     refine region_mix (But w115 (((updF vs ua v112) ub).ownBlock)) [0, 1, 2, 3, 4, 5, 6, 7, 8, 9, 10, 11, 12, 13, 14, 15, 16] 19 ?_
     replace H := H.drawn; have hD := But.drew w115 (((updF vs ua v112) ub).ownBlock)
     generalize ({ w115 with drawn := w115.drawn + 1 } : World) = w116 at H hD ⊢
     refine m_take (n := 4) [0, 1, 2, 3, 4, 5, 6, 7, 8, 9, 10, 11, 12, 13, 14] #[true, true, true, true, true, true, true, true, true, true, true, true, true, true, true, false, false, false, false] [(64, (.slice (some ⟨b9, 0, none⟩) n.toNat n.toNat)), (69, (.slice (some ⟨b9, 0, none⟩) n.toNat n.toNat)), (72, ((updF vs ua v112) ub))] [(2, pv b2), (3, pv b4), (5, pv b73), (26, vl), (27, iv (L.length : Int)), (28, iv i), (64, (.slice (some ⟨b9, 0, none⟩) n.toNat n.toNat)), (65, iv ub), (72, ((updF vs ua v112) ub)), (75, iv ((2 * (L.getD i.toNat 0)) + 1))] (TT ∧ TT ∧ (0 < Try.prog.cellsOf 67) ∧ (CellOk (But w115 (((updF vs ua v112) ub).ownBlock)) b73 (0 + 2) ((.slice (some ⟨b9, 0, none⟩) n.toNat n.toNat))) ∧ TT ∧ TT ∧ TT ∧ (0 < Try.prog.cellsOf 67) ∧ (CellOk (But w115 (((updF vs ua v112) ub).ownBlock)) b73 (0 + 2) ((.slice (some ⟨b9, 0, none⟩) n.toNat n.toNat))) ∧ TT ∧ ((Try.prog.info? 27).isSome = true ∧ IdxOk (.slice (some ⟨b9, 0, none⟩) n.toNat n.toNat) ub) ∧ (CellOk (But w115 (((updF vs ua v112) ub).ownBlock)) b9 (0 + ub.toNat * 1) (((updF vs ua v112) ub))) ∧ TT ∧ (InR .i64 (2 * (L.getD i.toNat 0))) ∧ (InR .i64 ((2 * (L.getD i.toNat 0)) + 1)) ∧ True) hA hD ⟨tv, tv, by decide +kernel, by exact box_cellC (box_atC H0 (((updF vs ua v112) ub).ownBlock) 1 rfl (H0.apart 1 0 (by decide) rfl rfl rfl)) 2, tv, tv, tv, by decide +kernel, by exact box_cellC (box_atC H0 (((updF vs ua v112) ub).ownBlock) 1 rfl (H0.apart 1 0 (by decide) rfl rfl rfl)) 2, tv, ⟨by kernel_rfl, arr_idx (by omega) (by omega)⟩, by exact arr_cellC (box_atC H0 (((updF vs ua v112) ub).ownBlock) 6 rfl (H0.apart 6 0 (by decide) rfl rfl rfl)) (by omega) (by omega), tv, ⟨by omega, by omega⟩, ⟨by omega, by omega⟩, tv⟩ fun a hA => ?_
     refine m_one 15 ?_; refine q_lit 15 76 27 1 #[(0, .tmp 75)] 3 [(0, iv ((2 * (L.getD i.toNat 0)) + 1))] [.int .i64 ((2 * (L.getD i.toNat 0)) + 1)] [(2, pv b2), (3, pv b4), (5, pv b73), (26, vl), (27, iv (L.length : Int)), (28, iv i), (64, (.slice (some ⟨b9, 0, none⟩) n.toNat n.toNat)), (65, iv ub), (72, ((updF vs ua v112) ub))] hA H fun b117 a w118 H hA hG hge_b117 => ?_
     replace hge_b117 := Nat.le_trans hD.1 hge_b117
     replace hD := hD.below hG
     refine ⟨fun _ => hD, ?_⟩
     refine m_one 16 ?_; refine q_push 16 77 (.tmp 72) (.tmp 76) 1 0 b117 1 1 ((updF vs ua v112) ub) ((updF ls ua ((ls ua) ++ [2 * (L.getD i.toNat 0)])) ub) [(2 * (L.getD i.toNat 0)) + 1] [.int .i64 ((2 * (L.getD i.toNat 0)) + 1)] [(2, pv b2), (3, pv b4), (5, pv b73), (26, vl), (27, iv (L.length : Int)), (28, iv i), (64, (.slice (some ⟨b9, 0, none⟩) n.toNat n.toNat)), (65, iv ub)] hA H Try.E27 rfl rfl (by exact (RowRd.single (α := Int) rfl)) rfl (by simp only [List.length_cons, List.length_nil, List.length_append]; omega) (by decide) fun v119 a w120 H hA hG => ?_
     replace H : Fr _ _ _ (.row 3 v119 (((updF ls ua ((ls ua) ++ [2 * (L.getD i.toNat 0)])) ub) ++ [(2 * (L.getD i.toNat 0)) + 1]) :: .box b73 106 [.int .i64 n, ve, (.slice (some ⟨b9, 0, none⟩) n.toNat n.toNat), (.slice (some ⟨b17, 0, none⟩) n.toNat n.toNat), (.slice (some ⟨b41, 0, none⟩) n.toNat n.toNat), .int .i64 0, (.slice none 0 0), (.map (some b65))] :: .box b17 3 (arrV n fun j => .int .i64 (Deep.St.zero.met j)) :: .box b41 3 (arrV n fun j => .int .i64 (Deep.St.zero.low j)) :: .row 3 (.slice none 0 0) ([] : List Int) :: mapR Try.prog 3 (α := List (Int)) b65 [] :: .box b9 27 (arrV n (updF vs ua v112)) :: .box b4 29 [vv, vl] :: .box b2 24 [.int .i64 n, ve] :: (tl ++ (rowsT n (updF vs ua v112) (updF ls ua ((ls ua) ++ [2 * (L.getD i.toNat 0)]))).eraseIdx ub.toNat)) := H.drop 0
     replace hD := hD.grown hG (fun b hb => .inl hb.symm)
     refine ⟨fun _ => hD, ?_⟩
     refine m_one 17 ?_; refine q_one 17 [] [(2, pv b2), (3, pv b4), (5, pv b73), (26, vl), (27, iv (L.length : Int)), (28, iv i), (77, v119), (78, .pointer (some ⟨b9, 0 + ub.toNat * 1, none⟩))] (((Try.prog.info? 27).isSome = true ∧ IdxOk (.slice (some ⟨b9, 0, none⟩) n.toNat n.toNat) ub) ∧ True) hA H ⟨⟨by kernel_rfl, arr_idx (by omega) (by omega)⟩, tv⟩ fun a w121 H hA hG => ?_
     refine ⟨fun h => absurd h (by decide), ?_⟩
     refine m_one 18 ?_; refine q_store 18 27 (.tmp 78) (.tmp 77) 6 b9 (0 + ub.toNat * 1) 27 ((arrV n (updF vs ua v112))) [v119] ((arrV n (updF (updF vs ua v112) ub v119))) v119 [(2, pv b2), (3, pv b4), (5, pv b73), (26, vl), (27, iv (L.length : Int)), (28, iv i)] hA H rfl (one_cells (rd_one (H.out 0 rfl))) (arr_room (by omega) (by omega)) (arr_set (by omega) (by omega) (updF_same _ _ _) (fun j hj => updF_ne _ _ hj)) (fun v hv => by simp only [List.mem_cons, List.not_mem_nil, or_false] at hv; rcases hv with rfl; exact (rd_one (H.out 0 rfl))) fun a w122 H hA hG => ?_
     replace H : Fr _ _ _ (.row 3 v119 (((updF ls ua ((ls ua) ++ [2 * (L.getD i.toNat 0)])) ub) ++ [(2 * (L.getD i.toNat 0)) + 1]) :: .box b73 106 [.int .i64 n, ve, (.slice (some ⟨b9, 0, none⟩) n.toNat n.toNat), (.slice (some ⟨b17, 0, none⟩) n.toNat n.toNat), (.slice (some ⟨b41, 0, none⟩) n.toNat n.toNat), .int .i64 0, (.slice none 0 0), (.map (some b65))] :: .box b17 3 (arrV n fun j => .int .i64 (Deep.St.zero.met j)) :: .box b41 3 (arrV n fun j => .int .i64 (Deep.St.zero.low j)) :: .row 3 (.slice none 0 0) ([] : List Int) :: mapR Try.prog 3 (α := List (Int)) b65 [] :: .box b9 27 (arrV n (updF (updF vs ua v112) ub v119)) :: .box b4 29 [vv, vl] :: .box b2 24 [.int .i64 n, ve] :: (tl ++ (rowsT n (updF vs ua v112) (updF ls ua ((ls ua) ++ [2 * (L.getD i.toNat 0)]))).eraseIdx ub.toNat)) := H
     refine ⟨fun h => absurd h (by decide), ?_⟩
     refine m_end ?_
     refine hK103 _ _ ?_
     refine q_reg [] [(2, pv b2), (3, pv b4), (5, pv b73), (26, vl), (27, iv (L.length : Int)), (28, iv (i + 1))] ((InR .i64 (i + 1)) ∧ TT ∧ True) hA H ⟨⟨by omega, by omega⟩, tv, tv⟩ fun a w123 hA H hG => ?_
     replace H := rows_in (a := ub) ([.box b73 106 [.int .i64 n, ve, (.slice (some ⟨b9, 0, none⟩) n.toNat n.toNat), (.slice (some ⟨b17, 0, none⟩) n.toNat n.toNat), (.slice (some ⟨b41, 0, none⟩) n.toNat n.toNat), .int .i64 0, (.slice none 0 0), (.map (some b65))], .box b17 3 (arrV n fun j => .int .i64 (Deep.St.zero.met j)), .box b41 3 (arrV n fun j => .int .i64 (Deep.St.zero.low j)), .row 3 (.slice none 0 0) ([] : List Int), mapR Try.prog 3 (α := List (Int)) b65 [], .box b9 27 (arrV n (updF (updF vs ua v112) ub v119)), .box b4 29 [vv, vl], .box b2 24 [.int .i64 n, ve]] ++ tl) H (by omega) (by omega)
     replace H : Fr _ _ _ (.box b73 106 [.int .i64 n, ve, (.slice (some ⟨b9, 0, none⟩) n.toNat n.toNat), (.slice (some ⟨b17, 0, none⟩) n.toNat n.toNat), (.slice (some ⟨b41, 0, none⟩) n.toNat n.toNat), .int .i64 0, (.slice none 0 0), (.map (some b65))] :: .box b17 3 (arrV n fun j => .int .i64 (Deep.St.zero.met j)) :: .box b41 3 (arrV n fun j => .int .i64 (Deep.St.zero.low j)) :: .row 3 (.slice none 0 0) ([] : List Int) :: mapR Try.prog 3 (α := List (Int)) b65 [] :: .box b9 27 (arrV n (updF (updF vs ua v112) ub v119)) :: .box b4 29 [vv, vl] :: .box b2 24 [.int .i64 n, ve] :: (tl ++ rowsT n (updF (updF vs ua v112) ub v119) (updF (updF ls ua ((ls ua) ++ [2 * (L.getD i.toNat 0)])) ub (((updF ls ua ((ls ua) ++ [2 * (L.getD i.toNat 0)])) ub) ++ [(2 * (L.getD i.toNat 0)) + 1])))) := H
     refine ⟨(i + 1, updF (updF vs ua v112) ub v119, updF (updF ls ua ((ls ua) ++ [2 * (L.getD i.toNat 0)])) ub (((updF ls ua ((ls ua) ++ [2 * (L.getD i.toNat 0)])) ub) ++ [(2 * (L.getD i.toNat 0)) + 1])), ⟨env_sub _ hA, ⟨_, H⟩, ?_⟩, ?_⟩
     · (try dsimp only); exact ⟨by omega, darts_next h0 (by omega) hls ha9 hb9, darts_len hll⟩
     (try dsimp only); omega
   have hhb102 := of_decide_eq_false hb102
   refine go_exit 0 ?_
   refine hK94 _ _ ?_
   refine go_seq fun K124 hK124 => ?_
   refine go_seq fun K125 hK125 => ?_
   obtain ⟨S, H⟩ := rows_freeze ([.box b73 106 [.int .i64 n, ve, (.slice (some ⟨b9, 0, none⟩) n.toNat n.toNat), (.slice (some ⟨b17, 0, none⟩) n.toNat n.toNat), (.slice (some ⟨b41, 0, none⟩) n.toNat n.toNat), .int .i64 0, (.slice none 0 0), (.map (some b65))], .box b17 3 (arrV n fun j => .int .i64 (Deep.St.zero.met j)), .box b41 3 (arrV n fun j => .int .i64 (Deep.St.zero.low j)), .row 3 (.slice none 0 0) ([] : List Int), mapR Try.prog 3 (α := List (Int)) b65 [], .box b9 27 (arrV n vs), .box b4 29 [vv, vl], .box b2 24 [.int .i64 n, ve]] ++ tl) H 5 rfl (by omega)
   replace H : Fr _ _ _ (.box b73 106 [.int .i64 n, ve, (.slice (some ⟨b9, 0, none⟩) n.toNat n.toNat), (.slice (some ⟨b17, 0, none⟩) n.toNat n.toNat), (.slice (some ⟨b41, 0, none⟩) n.toNat n.toNat), .int .i64 0, (.slice none 0 0), (.map (some b65))] :: .box b17 3 (arrV n fun j => .int .i64 (Deep.St.zero.met j)) :: .box b41 3 (arrV n fun j => .int .i64 (Deep.St.zero.low j)) :: .row 3 (.slice none 0 0) ([] : List Int) :: mapR Try.prog 3 (α := List (Int)) b65 [] :: .ro (.slice (some ⟨b9, 0, none⟩) n.toNat n.toNat) ((List.range n.toNat).map fun q : Nat => ls (q : Int)) :: .box b4 29 [vv, vl] :: .box b2 24 [.int .i64 n, ve] :: tl) := H
   have hDL : ∀ x, 0 ≤ x → x < n → ((List.range n.toNat).map fun q : Nat => ls (q : Int)).getD x.toNat [] = dartsL E L x := fun x q0 q1 => by rw [range_getD q0 q1, hls x q0 q1, List.take_of_length_le (by omega)]
   have hDLn : (((List.range n.toNat).map fun q : Nat => ls (q : Int)).length : Int) = n := by simp; omega
   refine q_reg [(81, vv), (82, iv (V.length : Int))] [(5, pv b73), (81, vv), (82, iv (V.length : Int)), (83, iv 0)] ((0 < Try.prog.cellsOf 27) ∧ (CellOk (On w100) b4 (0 + 0) (vv)) ∧ (LenOk vv (V.length : Int)) ∧ TT ∧ True) hA H ⟨by decide +kernel, by exact box_cell H 6 rfl 0, by exact len_ok (H.arg hV), tv, tv⟩ fun a w126 hA H hG => ?_
   refine hK125 _ _ ?_
   refine go_block 2 ?_
   refine go_loop_ (Int × Deep.St × Value × List (Int × Value × List Int)) (fun x_ a W => (fun (i : Int) (t : Deep.St) (eu : Value) (iu : List (Int × Value × List Int)) => EnvOk 100 a (keepEnv [(5, pv b73), (81, vv), (82, iv (V.length : Int)), (83, iv i)]) ∧ (∃ S, Fr o W S (.box b73 106 [.int .i64 n, ve, (.slice (some ⟨b9, 0, none⟩) n.toNat n.toNat), (.slice (some ⟨b17, 0, none⟩) n.toNat n.toNat), (.slice (some ⟨b41, 0, none⟩) n.toNat n.toNat), .int .i64 t.cnt, eu, (.map (some b65))] :: .box b17 3 (arrV n fun j => .int .i64 (t.met j)) :: .box b41 3 (arrV n fun j => .int .i64 (t.low j)) :: .row 3 eu t.stk :: mapR Try.prog 3 (α := List Int) b65 iu :: .ro (.slice (some ⟨b9, 0, none⟩) n.toNat n.toNat) ((List.range n.toNat).map fun q : Nat => ls (q : Int)) :: .box b4 29 [vv, vl] :: .box b2 24 [.int .i64 n, ve] :: tl)) ∧ 0 ≤ i ∧ Deep.Roots (dartsL E L) (headE E) (V.drop i.toNat) t s' ∧ 0 ≤ t.cnt ∧ insOf iu = t.ins) x_.1 x_.2.1 x_.2.2.1 x_.2.2.2) (fun x_ => (fun (i : Int) (t : Deep.St) (eu : Value) (iu : List (Int × Value × List Int)) => ((V.length : Int) - i).toNat) x_.1 x_.2.1 x_.2.2.1 x_.2.2.2) (0, Deep.St.zero, .slice none 0 0, []) ?_ (fun x_ a w128 hI => ?_)
   · (try dsimp only); exact ⟨env_sub _ hA, ⟨_, H⟩, by omega, hroots, Int.le_refl _, rfl⟩
   obtain ⟨i, t, eu, iu⟩ := x_
   obtain ⟨hA, ⟨S, H⟩, h0, hst, hc, hit⟩ := hI
   try dsimp only at h0 hst hc hit
   replace H : Fr _ _ _ (.box b73 106 [.int .i64 n, ve, (.slice (some ⟨b9, 0, none⟩) n.toNat n.toNat), (.slice (some ⟨b17, 0, none⟩) n.toNat n.toNat), (.slice (some ⟨b41, 0, none⟩) n.toNat n.toNat), .int .i64 t.cnt, eu, (.map (some b65))] :: .box b17 3 (arrV n fun j => .int .i64 (t.met j)) :: .box b41 3 (arrV n fun j => .int .i64 (t.low j)) :: .row 3 eu t.stk :: mapR Try.prog 3 (α := List Int) b65 iu :: .ro (.slice (some ⟨b9, 0, none⟩) n.toNat n.toNat) ((List.range n.toNat).map fun q : Nat => ls (q : Int)) :: .box b4 29 [vv, vl] :: .box b2 24 [.int .i64 n, ve] :: tl) := H
   refine go_seq fun K129 hK129 => ?_
   refine q_reg [] [(5, pv b73), (81, vv), (82, iv (V.length : Int)), (83, iv i), (84, .bool (decide (i < (V.length : Int))))] (TT ∧ True) hA H ⟨tv, tv⟩ fun a w130 hA H hG => ?_
   refine hK129 _ _ ?_
   refine go_seq fun K131 hK131 => ?_
   refine go_cond hA (.tmp 84) (decide (i < (V.length : Int))) (fun hb132 => ?_) (fun hb132 => ?_)
   · have hhb132 := of_decide_eq_true hb132
     refine go_skip ?_
     refine hK131 _ _ ?_
     refine go_seq fun K133 hK133 => ?_
     refine go_block 3 ?_
     refine go_seq fun K134 hK134 => ?_
     have hvm := hp2 i.toNat (by omega)
     rw [drop_round h0 (by omega)] at hst
     refine q_reg [(86, iv (V.getD i.toNat 0))] [(5, pv b73), (11, iv (V.getD i.toNat 0)), (81, vv), (82, iv (V.length : Int)), (83, iv i)] (((Try.prog.info? 3).isSome = true ∧ IdxOk vv i) ∧ (CellOk (On w130) (hdB vv) (hdO vv + i.toNat * 1) (.int .i64 (V.getD i.toNat 0))) ∧ TT ∧ True) hA H ⟨⟨by kernel_rfl, by exact idx_ok (H.arg hV) (by omega) (by omega)⟩, by exact cell_flat (i := i) (H.arg hV) (by omega) (by omega) 0 0, tv, tv⟩ fun a w135 hA H hG => ?_
     refine hK134 _ _ ?_
     refine go_seq fun K136 hK136 => ?_
     refine q_reg [(90, (.slice (some ⟨b17, 0, none⟩) n.toNat n.toNat)), (93, iv (t.met (V.getD i.toNat 0)))] [(5, pv b73), (11, iv (V.getD i.toNat 0)), (81, vv), (82, iv (V.length : Int)), (83, iv i), (94, .bool (decide (t.met (V.getD i.toNat 0) = 0)))] (TT ∧ TT ∧ (0 < Try.prog.cellsOf 27) ∧ (CellOk (On w135) b73 (0 + 3) ((.slice (some ⟨b17, 0, none⟩) n.toNat n.toNat))) ∧ TT ∧ ((Try.prog.info? 3).isSome = true ∧ IdxOk (.slice (some ⟨b17, 0, none⟩) n.toNat n.toNat) (V.getD i.toNat 0)) ∧ (CellOk (On w135) b17 (0 + (V.getD i.toNat 0).toNat * 1) (.int .i64 (t.met (V.getD i.toNat 0)))) ∧ TT ∧ True) hA H ⟨tv, tv, by decide +kernel, by exact box_cell H 0 rfl 3, tv, ⟨by kernel_rfl, arr_idx (by omega) (by omega)⟩, by exact arr_cell H 1 rfl (by omega) (by omega), tv, tv⟩ fun a w137 hA H hG => ?_
     refine hK136 _ _ ?_
     refine go_cond hA (.tmp 94) (decide (t.met (V.getD i.toNat 0) = 0)) (fun hb138 => ?_) (fun hb138 => ?_)
     · have hhb138 := of_decide_eq_true hb138
       refine region_list ?_
       refine q_list 0 2 [] [(5, pv b73), (81, vv), (82, iv (V.length : Int)), (83, iv i), (95, pv b73), (96, iv (V.getD i.toNat 0))] (TT ∧ TT ∧ True) hA H ⟨tv, tv, tv⟩ fun a w139 hA H hG => ?_
       obtain ⟨s1, k9, hvis, hst2⟩ := roots_go hst hhb138
       have hb1 := Deep.roots_bd hst2 hb
       have hc2 := Deep.visit_cnt _ _ _ _ _ hvis
       refine list_at 2 ?_; refine q_any 2 97 102 #[.tmp 95, .tmp 96, .const (.int .i64 (-1))] #[107, 3, 3] [.pointer (some ⟨b73, 0, none⟩), .int .i64 (V.getD i.toNat 0), .int .i64 (-1)] (fun u9 w9 => ∃ S ev9 in9, Fr o w9 S (finR n ve (.slice (some ⟨b9, 0, none⟩) n.toNat n.toNat) ((List.range n.toNat).map fun q : Nat => ls (q : Int)) b73 b17 b41 b65 s1 ev9 in9 (.box b4 29 [vv, vl] :: .box b2 24 [.int .i64 n, ve] :: tl)) ∧ insOf in9 = s1.ins) [(5, pv b73), (81, vv), (82, iv (V.length : Int)), (83, iv i)] hA ((visit_any n ve E L (.slice (some ⟨b9, 0, none⟩) n.toNat n.toNat) ((List.range n.toNat).map fun q : Nat => ls (q : Int)) b73 b17 b41 b65 o hp1 hp3 hE hDL hDLn k9 _ _ t s1 _ _ eu iu (.box b4 29 [vv, vl] :: .box b2 24 [.int .i64 n, ve] :: tl) hvis hb1 hc (by omega) (by omega) H hit).mono fun e9 w9 h9 => ⟨_, h9.1, h9.2⟩) fun v140 a w141 hR142 hA => ?_
       obtain ⟨S, ev2, iu2, H, hi2⟩ := hR142
       replace H : Fr _ _ _ (.box b73 106 [.int .i64 n, ve, (.slice (some ⟨b9, 0, none⟩) n.toNat n.toNat), (.slice (some ⟨b17, 0, none⟩) n.toNat n.toNat), (.slice (some ⟨b41, 0, none⟩) n.toNat n.toNat), .int .i64 s1.cnt, ev2, (.map (some b65))] :: .box b17 3 (arrV n fun j => .int .i64 (s1.met j)) :: .box b41 3 (arrV n fun j => .int .i64 (s1.low j)) :: .row 3 ev2 s1.stk :: mapR Try.prog 3 (α := List Int) b65 iu2 :: .ro (.slice (some ⟨b9, 0, none⟩) n.toNat n.toNat) ((List.range n.toNat).map fun q : Nat => ls (q : Int)) :: .box b4 29 [vv, vl] :: .box b2 24 [.int .i64 n, ve] :: tl) := H
       refine list_end ?_
       refine hK133 _ _ ?_
       refine q_reg [] [(5, pv b73), (81, vv), (82, iv (V.length : Int)), (83, iv (i + 1))] ((InR .i64 (i + 1)) ∧ TT ∧ True) hA H ⟨⟨by omega, by omega⟩, tv, tv⟩ fun a w143 hA H hG => ?_
       refine ⟨(i + 1, s1, ev2, iu2), ⟨env_sub _ hA, ⟨_, H⟩, ?_⟩, ?_⟩
       · (try dsimp only); exact ⟨by omega, hst2, by omega, hi2⟩
       (try dsimp only); omega
     have hhb138 := of_decide_eq_false hb138
     refine go_skip ?_
     refine hK133 _ _ ?_
     refine q_reg [] [(5, pv b73), (81, vv), (82, iv (V.length : Int)), (83, iv (i + 1))] ((InR .i64 (i + 1)) ∧ TT ∧ True) hA H ⟨⟨by omega, by omega⟩, tv, tv⟩ fun a w144 hA H hG => ?_
     refine ⟨(i + 1, t, eu, iu), ⟨env_sub _ hA, ⟨_, H⟩, ?_⟩, ?_⟩
     · (try dsimp only); exact ⟨by omega, roots_met hst hhb138, hc, hit⟩
     (try dsimp only); omega
   have hhb132 := of_decide_eq_false hb132
   refine go_exit 2 ?_
   refine hK124 _ _ ?_
   refine go_seq fun K145 hK145 => ?_
   refine q_reg [] [(4, pv b73)] (TT ∧ TT ∧ True) hA H ⟨tv, tv, tv⟩ fun a w146 hA H hG => ?_
   refine hK145 _ _ ?_
   refine go_ret_ ?_
   refine ret_one 4 (.pointer (some ⟨b73, 0, none⟩)) hA ?_
   rw [drop_end (by omega)] at hst; cases roots_nil hst
   replace H := H.drop 7
   replace H := H.drop 6
   exact ⟨b73, b17, b41, b65, _, _, _, _, _, rfl, H, hit⟩
 have hM76 : ∀ (a : Act) (w147 : World) (S : Stab) (b9 : Nat) (hge_b9 : w6.heap.size ≤ b9) (b17 : Nat) (hge_b17 : w6.heap.size ≤ b17) (b41 : Nat) (hge_b41 : w6.heap.size ≤ b41) (b65 : Nat) (hge_b65 : w6.heap.size ≤ b65), EnvOk 100 a (keepEnv [(2, pv b2), (3, pv b4), (23, .agg #[.int .i64 n, ve, (.slice (some ⟨b9, 0, none⟩) n.toNat n.toNat), (.slice (some ⟨b17, 0, none⟩) n.toNat n.toNat), (.slice (some ⟨b41, 0, none⟩) n.toNat n.toNat), .int .i64 0, (.slice none 0 0), (.map (some b65))])]) → Fr o w147 S (mapR Try.prog 3 (α := List (Int)) b65 [] :: .box b41 3 (arrV n fun j => .int .i64 (Deep.St.zero.low j)) :: .box b17 3 (arrV n fun j => .int .i64 (Deep.St.zero.met j)) :: .box b9 27 (arrV n (fun _ => .slice none 0 0)) :: .box b4 29 [vv, vl] :: .box b2 24 [.int .i64 n, ve] :: tl) → But w6 none w147 → M 2 #[true, true, true, true, true, true, true, true, true, true, true, true, false, false] a w147 := by
   intro a w147 S b9 hge_b9 b17 hge_b17 b41 hge_b41 b65 hge_b65 hA H hD
   refine (hM _ _ _ _).2 ?_
   refine m_one 12 ?_; refine q_box 12 24 106 (.tmp 23) (.agg #[.int .i64 n, ve, (.slice (some ⟨b9, 0, none⟩) n.toNat n.toNat), (.slice (some ⟨b17, 0, none⟩) n.toNat n.toNat), (.slice (some ⟨b41, 0, none⟩) n.toNat n.toNat), .int .i64 0, (.slice none 0 0), (.map (some b65))]) [.int .i64 n, ve, (.slice (some ⟨b9, 0, none⟩) n.toNat n.toNat), (.slice (some ⟨b17, 0, none⟩) n.toNat n.toNat), (.slice (some ⟨b41, 0, none⟩) n.toNat n.toNat), .int .i64 0, (.slice none 0 0), (.map (some b65))] [(2, pv b2), (3, pv b4)] hA H fun b148 a w149 H hA hG hge_b148 => ?_
   replace hge_b148 := Nat.le_trans hD.1 hge_b148
   replace hD := hD.below hG
   refine ⟨fun _ => hD, ?_⟩
   exact (hM _ _ _ _).1 (hM75 _ _ _ b9 hge_b9 b17 hge_b17 b41 hge_b41 b65 hge_b65 b148 hge_b148 (env_sub _ hA) H hD)
 have hM77 : ∀ (a : Act) (w150 : World) (S : Stab) (b9 : Nat) (hge_b9 : w6.heap.size ≤ b9) (b17 : Nat) (hge_b17 : w6.heap.size ≤ b17) (b41 : Nat) (hge_b41 : w6.heap.size ≤ b41), EnvOk 100 a (keepEnv [(2, pv b2), (3, pv b4), (12, .agg #[.int .i64 n, ve]), (15, (.slice (some ⟨b9, 0, none⟩) n.toNat n.toNat)), (18, (.slice (some ⟨b17, 0, none⟩) n.toNat n.toNat)), (21, (.slice (some ⟨b41, 0, none⟩) n.toNat n.toNat))]) → Fr o w150 S (.box b41 3 (arrV n fun j => .int .i64 (Deep.St.zero.low j)) :: .box b17 3 (arrV n fun j => .int .i64 (Deep.St.zero.met j)) :: .box b9 27 (arrV n (fun _ => .slice none 0 0)) :: .box b4 29 [vv, vl] :: .box b2 24 [.int .i64 n, ve] :: tl) → But w6 none w150 → M 4 #[true, true, true, true, true, true, true, true, true, true, false, false, false, false] a w150 := by
   intro a w150 S b9 hge_b9 b17 hge_b17 b41 hge_b41 hA H hD
   refine (hM _ _ _ _).2 ?_
   refine m_one 10 ?_; refine q_makeMap (List (Int)) 3 10 22 104 [(2, pv b2), (3, pv b4), (12, .agg #[.int .i64 n, ve]), (15, (.slice (some ⟨b9, 0, none⟩) n.toNat n.toNat)), (18, (.slice (some ⟨b17, 0, none⟩) n.toNat n.toNat)), (21, (.slice (some ⟨b41, 0, none⟩) n.toNat n.toNat))] hA H fun b151 a w152 H hA hG hge_b151 => ?_
   replace hge_b151 := Nat.le_trans hD.1 hge_b151
   replace hD := hD.below hG
   refine ⟨fun _ => hD, ?_⟩
   refine m_take (n := 2) [11] #[true, true, true, true, true, true, true, true, true, true, true, true, false, false] [(23, .agg #[.int .i64 n, ve, (.slice (some ⟨b9, 0, none⟩) n.toNat n.toNat), (.slice (some ⟨b17, 0, none⟩) n.toNat n.toNat), (.slice (some ⟨b41, 0, none⟩) n.toNat n.toNat), .int .i64 0, (.slice none 0 0), (.map (some b151))])] [(2, pv b2), (3, pv b4), (23, .agg #[.int .i64 n, ve, (.slice (some ⟨b9, 0, none⟩) n.toNat n.toNat), (.slice (some ⟨b17, 0, none⟩) n.toNat n.toNat), (.slice (some ⟨b41, 0, none⟩) n.toNat n.toNat), .int .i64 0, (.slice none 0 0), (.map (some b151))])] ((∀ w, (Instr.build 106 #[(0, .agg #[.int .i64 n, ve]), (1, (.slice (some ⟨b9, 0, none⟩) n.toNat n.toNat)), (2, (.slice (some ⟨b17, 0, none⟩) n.toNat n.toNat)), (3, (.slice (some ⟨b41, 0, none⟩) n.toNat n.toNat)), (6, (.map (some b151)))]).run Try.prog w = .ok (.agg #[.int .i64 n, ve, (.slice (some ⟨b9, 0, none⟩) n.toNat n.toNat), (.slice (some ⟨b17, 0, none⟩) n.toNat n.toNat), (.slice (some ⟨b41, 0, none⟩) n.toNat n.toNat), .int .i64 0, (.slice none 0 0), (.map (some b151))]) w) ∧ True) hA hD ⟨fun w => by obtain ⟨_, _, _, e0⟩ := rd_form (H0.argT hE); rw [e0]; kernel_rfl, tv⟩ fun a hA => ?_
   exact (hM _ _ _ _).1 (hM76 _ _ _ b9 hge_b9 b17 hge_b17 b41 hge_b41 b151 hge_b151 (env_sub _ hA) H hD)
 have hM78 : ∀ (a : Act) (w153 : World) (S : Stab) (b9 : Nat) (hge_b9 : w6.heap.size ≤ b9) (b17 : Nat) (hge_b17 : w6.heap.size ≤ b17) (b43 : Nat) (hge_b43 : w6.heap.size ≤ b43), EnvOk 100 a (keepEnv [(2, pv b2), (3, pv b4), (12, .agg #[.int .i64 n, ve]), (15, (.slice (some ⟨b9, 0, none⟩) n.toNat n.toNat)), (18, (.slice (some ⟨b17, 0, none⟩) n.toNat n.toNat)), (20, iv n), (22, (.map (some b43)))]) → Fr o w153 S (mapR Try.prog 3 (α := List (Int)) b43 [] :: .box b17 3 (arrV n fun j => .int .i64 (Deep.St.zero.met j)) :: .box b9 27 (arrV n (fun _ => .slice none 0 0)) :: .box b4 29 [vv, vl] :: .box b2 24 [.int .i64 n, ve] :: tl) → But w6 none w153 → M 4 #[true, true, true, true, true, true, true, true, true, false, true, false, false, false] a w153 := by
   intro a w153 S b9 hge_b9 b17 hge_b17 b43 hge_b43 hA H hD
   refine (hM _ _ _ _).2 ?_
   refine m_one 9 ?_; refine q_makeA 9 21 27 (.tmp 20) 3 n (.int .i64 0) [(2, pv b2), (3, pv b4), (12, .agg #[.int .i64 n, ve]), (15, (.slice (some ⟨b9, 0, none⟩) n.toNat n.toNat)), (18, (.slice (some ⟨b17, 0, none⟩) n.toNat n.toNat)), (22, (.map (some b43)))] hA H Try.underlying27 (make_info (by kernel_rfl)) (by omega) (by omega) fun b154 a w155 H hA hG hge_b154 => ?_
   replace hge_b154 := Nat.le_trans hD.1 hge_b154
   replace H : Fr _ _ _ (mapR Try.prog 3 (α := List (Int)) b43 [] :: .box b154 3 (arrV n fun j => .int .i64 (Deep.St.zero.low j)) :: .box b17 3 (arrV n fun j => .int .i64 (Deep.St.zero.met j)) :: .box b9 27 (arrV n (fun _ => .slice none 0 0)) :: .box b4 29 [vv, vl] :: .box b2 24 [.int .i64 n, ve] :: tl) := H.sink 1 1
   replace hD := hD.below hG
   refine ⟨fun _ => hD, ?_⟩
   refine m_take (n := 2) [11] #[true, true, true, true, true, true, true, true, true, true, true, true, false, false] [(23, .agg #[.int .i64 n, ve, (.slice (some ⟨b9, 0, none⟩) n.toNat n.toNat), (.slice (some ⟨b17, 0, none⟩) n.toNat n.toNat), (.slice (some ⟨b154, 0, none⟩) n.toNat n.toNat), .int .i64 0, (.slice none 0 0), (.map (some b43))])] [(2, pv b2), (3, pv b4), (23, .agg #[.int .i64 n, ve, (.slice (some ⟨b9, 0, none⟩) n.toNat n.toNat), (.slice (some ⟨b17, 0, none⟩) n.toNat n.toNat), (.slice (some ⟨b154, 0, none⟩) n.toNat n.toNat), .int .i64 0, (.slice none 0 0), (.map (some b43))])] ((∀ w, (Instr.build 106 #[(0, .agg #[.int .i64 n, ve]), (1, (.slice (some ⟨b9, 0, none⟩) n.toNat n.toNat)), (2, (.slice (some ⟨b17, 0, none⟩) n.toNat n.toNat)), (3, (.slice (some ⟨b154, 0, none⟩) n.toNat n.toNat)), (6, (.map (some b43)))]).run Try.prog w = .ok (.agg #[.int .i64 n, ve, (.slice (some ⟨b9, 0, none⟩) n.toNat n.toNat), (.slice (some ⟨b17, 0, none⟩) n.toNat n.toNat), (.slice (some ⟨b154, 0, none⟩) n.toNat n.toNat), .int .i64 0, (.slice none 0 0), (.map (some b43))]) w) ∧ True) hA hD ⟨fun w => by obtain ⟨_, _, _, e0⟩ := rd_form (H0.argT hE); rw [e0]; kernel_rfl, tv⟩ fun a hA => ?_
   exact (hM _ _ _ _).1 (hM76 _ _ _ b9 hge_b9 b17 hge_b17 b154 hge_b154 b43 hge_b43 (env_sub _ hA) H hD)
 have hM79 : ∀ (a : Act) (w156 : World) (S : Stab) (b9 : Nat) (hge_b9 : w6.heap.size ≤ b9) (b19 : Nat) (hge_b19 : w6.heap.size ≤ b19) (b47 : Nat) (hge_b47 : w6.heap.size ≤ b47), EnvOk 100 a (keepEnv [(2, pv b2), (3, pv b4), (12, .agg #[.int .i64 n, ve]), (15, (.slice (some ⟨b9, 0, none⟩) n.toNat n.toNat)), (17, iv n), (21, (.slice (some ⟨b19, 0, none⟩) n.toNat n.toNat)), (22, (.map (some b47)))]) → Fr o w156 S (mapR Try.prog 3 (α := List (Int)) b47 [] :: .box b19 3 (arrV n fun j => .int .i64 (Deep.St.zero.low j)) :: .box b9 27 (arrV n (fun _ => .slice none 0 0)) :: .box b4 29 [vv, vl] :: .box b2 24 [.int .i64 n, ve] :: tl) → But w6 none w156 → M 4 #[true, true, true, true, true, true, false, true, true, true, true, false, false, false] a w156 := by
   intro a w156 S b9 hge_b9 b19 hge_b19 b47 hge_b47 hA H hD
   refine (hM _ _ _ _).2 ?_
   refine m_one 6 ?_; refine q_makeA 6 18 27 (.tmp 17) 3 n (.int .i64 0) [(2, pv b2), (3, pv b4), (12, .agg #[.int .i64 n, ve]), (15, (.slice (some ⟨b9, 0, none⟩) n.toNat n.toNat)), (21, (.slice (some ⟨b19, 0, none⟩) n.toNat n.toNat)), (22, (.map (some b47)))] hA H Try.underlying27 (make_info (by kernel_rfl)) (by omega) (by omega) fun b157 a w158 H hA hG hge_b157 => ?_
   replace hge_b157 := Nat.le_trans hD.1 hge_b157
   replace H : Fr _ _ _ (mapR Try.prog 3 (α := List (Int)) b47 [] :: .box b19 3 (arrV n fun j => .int .i64 (Deep.St.zero.low j)) :: .box b157 3 (arrV n fun j => .int .i64 (Deep.St.zero.met j)) :: .box b9 27 (arrV n (fun _ => .slice none 0 0)) :: .box b4 29 [vv, vl] :: .box b2 24 [.int .i64 n, ve] :: tl) := H.sink 1 2
   replace hD := hD.below hG
   refine ⟨fun _ => hD, ?_⟩
   refine m_take (n := 2) [11] #[true, true, true, true, true, true, true, true, true, true, true, true, false, false] [(23, .agg #[.int .i64 n, ve, (.slice (some ⟨b9, 0, none⟩) n.toNat n.toNat), (.slice (some ⟨b157, 0, none⟩) n.toNat n.toNat), (.slice (some ⟨b19, 0, none⟩) n.toNat n.toNat), .int .i64 0, (.slice none 0 0), (.map (some b47))])] [(2, pv b2), (3, pv b4), (23, .agg #[.int .i64 n, ve, (.slice (some ⟨b9, 0, none⟩) n.toNat n.toNat), (.slice (some ⟨b157, 0, none⟩) n.toNat n.toNat), (.slice (some ⟨b19, 0, none⟩) n.toNat n.toNat), .int .i64 0, (.slice none 0 0), (.map (some b47))])] ((∀ w, (Instr.build 106 #[(0, .agg #[.int .i64 n, ve]), (1, (.slice (some ⟨b9, 0, none⟩) n.toNat n.toNat)), (2, (.slice (some ⟨b157, 0, none⟩) n.toNat n.toNat)), (3, (.slice (some ⟨b19, 0, none⟩) n.toNat n.toNat)), (6, (.map (some b47)))]).run Try.prog w = .ok (.agg #[.int .i64 n, ve, (.slice (some ⟨b9, 0, none⟩) n.toNat n.toNat), (.slice (some ⟨b157, 0, none⟩) n.toNat n.toNat), (.slice (some ⟨b19, 0, none⟩) n.toNat n.toNat), .int .i64 0, (.slice none 0 0), (.map (some b47))]) w) ∧ True) hA hD ⟨fun w => by obtain ⟨_, _, _, e0⟩ := rd_form (H0.argT hE); rw [e0]; kernel_rfl, tv⟩ fun a hA => ?_
   exact (hM _ _ _ _).1 (hM76 _ _ _ b9 hge_b9 b157 hge_b157 b19 hge_b19 b47 hge_b47 (env_sub _ hA) H hD)
 have hM80 : ∀ (a : Act) (w159 : World) (S : Stab) (b11 : Nat) (hge_b11 : w6.heap.size ≤ b11) (b25 : Nat) (hge_b25 : w6.heap.size ≤ b25) (b55 : Nat) (hge_b55 : w6.heap.size ≤ b55), EnvOk 100 a (keepEnv [(2, pv b2), (3, pv b4), (12, .agg #[.int .i64 n, ve]), (14, iv n), (18, (.slice (some ⟨b11, 0, none⟩) n.toNat n.toNat)), (21, (.slice (some ⟨b25, 0, none⟩) n.toNat n.toNat)), (22, (.map (some b55)))]) → Fr o w159 S (mapR Try.prog 3 (α := List (Int)) b55 [] :: .box b25 3 (arrV n fun j => .int .i64 (Deep.St.zero.low j)) :: .box b11 3 (arrV n fun j => .int .i64 (Deep.St.zero.met j)) :: .box b4 29 [vv, vl] :: .box b2 24 [.int .i64 n, ve] :: tl) → But w6 none w159 → M 4 #[true, true, true, false, true, true, true, true, true, true, true, false, false, false] a w159 := by
   intro a w159 S b11 hge_b11 b25 hge_b25 b55 hge_b55 hA H hD
   refine (hM _ _ _ _).2 ?_
   refine m_one 3 ?_; refine q_makeA 3 15 67 (.tmp 14) 27 n (.slice none 0 0) [(2, pv b2), (3, pv b4), (12, .agg #[.int .i64 n, ve]), (18, (.slice (some ⟨b11, 0, none⟩) n.toNat n.toNat)), (21, (.slice (some ⟨b25, 0, none⟩) n.toNat n.toNat)), (22, (.map (some b55)))] hA H Try.underlying67 (make_info (by kernel_rfl)) (by omega) (by omega) fun b160 a w161 H hA hG hge_b160 => ?_
   replace hge_b160 := Nat.le_trans hD.1 hge_b160
   replace H : Fr _ _ _ (mapR Try.prog 3 (α := List (Int)) b55 [] :: .box b25 3 (arrV n fun j => .int .i64 (Deep.St.zero.low j)) :: .box b11 3 (arrV n fun j => .int .i64 (Deep.St.zero.met j)) :: .box b160 27 (arrV n (fun _ => .slice none 0 0)) :: .box b4 29 [vv, vl] :: .box b2 24 [.int .i64 n, ve] :: tl) := H.sink 1 3
   replace hD := hD.below hG
   refine ⟨fun _ => hD, ?_⟩
   refine m_take (n := 2) [11] #[true, true, true, true, true, true, true, true, true, true, true, true, false, false] [(23, .agg #[.int .i64 n, ve, (.slice (some ⟨b160, 0, none⟩) n.toNat n.toNat), (.slice (some ⟨b11, 0, none⟩) n.toNat n.toNat), (.slice (some ⟨b25, 0, none⟩) n.toNat n.toNat), .int .i64 0, (.slice none 0 0), (.map (some b55))])] [(2, pv b2), (3, pv b4), (23, .agg #[.int .i64 n, ve, (.slice (some ⟨b160, 0, none⟩) n.toNat n.toNat), (.slice (some ⟨b11, 0, none⟩) n.toNat n.toNat), (.slice (some ⟨b25, 0, none⟩) n.toNat n.toNat), .int .i64 0, (.slice none 0 0), (.map (some b55))])] ((∀ w, (Instr.build 106 #[(0, .agg #[.int .i64 n, ve]), (1, (.slice (some ⟨b160, 0, none⟩) n.toNat n.toNat)), (2, (.slice (some ⟨b11, 0, none⟩) n.toNat n.toNat)), (3, (.slice (some ⟨b25, 0, none⟩) n.toNat n.toNat)), (6, (.map (some b55)))]).run Try.prog w = .ok (.agg #[.int .i64 n, ve, (.slice (some ⟨b160, 0, none⟩) n.toNat n.toNat), (.slice (some ⟨b11, 0, none⟩) n.toNat n.toNat), (.slice (some ⟨b25, 0, none⟩) n.toNat n.toNat), .int .i64 0, (.slice none 0 0), (.map (some b55))]) w) ∧ True) hA hD ⟨fun w => by obtain ⟨_, _, _, e0⟩ := rd_form (H0.argT hE); rw [e0]; kernel_rfl, tv⟩ fun a hA => ?_
   exact (hM _ _ _ _).1 (hM76 _ _ _ b160 hge_b160 b11 hge_b11 b25 hge_b25 b55 hge_b55 (env_sub _ hA) H hD)
 have hM81 : ∀ (a : Act) (w162 : World) (S : Stab) (b9 : Nat) (hge_b9 : w6.heap.size ≤ b9) (b17 : Nat) (hge_b17 : w6.heap.size ≤ b17), EnvOk 100 a (keepEnv [(2, pv b2), (3, pv b4), (12, .agg #[.int .i64 n, ve]), (15, (.slice (some ⟨b9, 0, none⟩) n.toNat n.toNat)), (18, (.slice (some ⟨b17, 0, none⟩) n.toNat n.toNat)), (20, iv n)]) → Fr o w162 S (.box b17 3 (arrV n fun j => .int .i64 (Deep.St.zero.met j)) :: .box b9 27 (arrV n (fun _ => .slice none 0 0)) :: .box b4 29 [vv, vl] :: .box b2 24 [.int .i64 n, ve] :: tl) → But w6 none w162 → M 5 #[true, true, true, true, true, true, true, true, true, false, false, false, false, false] a w162 := by
   intro a w162 S b9 hge_b9 b17 hge_b17 hA H hD
   refine (hM _ _ _ _).2 ?_
   refine m_many [9, 10] fun i_ hi_ => ?_
   simp only [List.mem_cons, List.not_mem_nil, or_false] at hi_
   rcases hi_ with rfl | rfl
   · skip
     refine q_makeA 9 21 27 (.tmp 20) 3 n (.int .i64 0) [(2, pv b2), (3, pv b4), (12, .agg #[.int .i64 n, ve]), (15, (.slice (some ⟨b9, 0, none⟩) n.toNat n.toNat)), (18, (.slice (some ⟨b17, 0, none⟩) n.toNat n.toNat))] hA H Try.underlying27 (make_info (by kernel_rfl)) (by omega) (by omega) fun b163 a w164 H hA hG hge_b163 => ?_
     replace hge_b163 := Nat.le_trans hD.1 hge_b163
     replace hD := hD.below hG
     refine ⟨fun _ => hD, ?_⟩
     exact (hM _ _ _ _).1 (hM77 _ _ _ b9 hge_b9 b17 hge_b17 b163 hge_b163 (env_sub _ hA) H hD)
   skip
   refine q_makeMap (List (Int)) 3 10 22 104 [(2, pv b2), (3, pv b4), (12, .agg #[.int .i64 n, ve]), (15, (.slice (some ⟨b9, 0, none⟩) n.toNat n.toNat)), (18, (.slice (some ⟨b17, 0, none⟩) n.toNat n.toNat)), (20, iv n)] hA H fun b165 a w166 H hA hG hge_b165 => ?_
   replace hge_b165 := Nat.le_trans hD.1 hge_b165
   replace hD := hD.below hG
   refine ⟨fun _ => hD, ?_⟩
   exact (hM _ _ _ _).1 (hM78 _ _ _ b9 hge_b9 b17 hge_b17 b165 hge_b165 (env_sub _ hA) H hD)
 have hM82 : ∀ (a : Act) (w167 : World) (S : Stab) (b9 : Nat) (hge_b9 : w6.heap.size ≤ b9) (b19 : Nat) (hge_b19 : w6.heap.size ≤ b19), EnvOk 100 a (keepEnv [(2, pv b2), (3, pv b4), (12, .agg #[.int .i64 n, ve]), (15, (.slice (some ⟨b9, 0, none⟩) n.toNat n.toNat)), (17, iv n), (21, (.slice (some ⟨b19, 0, none⟩) n.toNat n.toNat))]) → Fr o w167 S (.box b19 3 (arrV n fun j => .int .i64 (Deep.St.zero.low j)) :: .box b9 27 (arrV n (fun _ => .slice none 0 0)) :: .box b4 29 [vv, vl] :: .box b2 24 [.int .i64 n, ve] :: tl) → But w6 none w167 → M 5 #[true, true, true, true, true, true, false, true, true, true, false, false, false, false] a w167 := by
   intro a w167 S b9 hge_b9 b19 hge_b19 hA H hD
   refine (hM _ _ _ _).2 ?_
   refine m_many [6, 10] fun i_ hi_ => ?_
   simp only [List.mem_cons, List.not_mem_nil, or_false] at hi_
   rcases hi_ with rfl | rfl
   · skip
     refine q_makeA 6 18 27 (.tmp 17) 3 n (.int .i64 0) [(2, pv b2), (3, pv b4), (12, .agg #[.int .i64 n, ve]), (15, (.slice (some ⟨b9, 0, none⟩) n.toNat n.toNat)), (21, (.slice (some ⟨b19, 0, none⟩) n.toNat n.toNat))] hA H Try.underlying27 (make_info (by kernel_rfl)) (by omega) (by omega) fun b168 a w169 H hA hG hge_b168 => ?_
     replace hge_b168 := Nat.le_trans hD.1 hge_b168
     replace H : Fr _ _ _ (.box b19 3 (arrV n fun j => .int .i64 (Deep.St.zero.low j)) :: .box b168 3 (arrV n fun j => .int .i64 (Deep.St.zero.met j)) :: .box b9 27 (arrV n (fun _ => .slice none 0 0)) :: .box b4 29 [vv, vl] :: .box b2 24 [.int .i64 n, ve] :: tl) := H.sink 1 1
     replace hD := hD.below hG
     refine ⟨fun _ => hD, ?_⟩
     exact (hM _ _ _ _).1 (hM77 _ _ _ b9 hge_b9 b168 hge_b168 b19 hge_b19 (env_sub _ hA) H hD)
   skip
   refine q_makeMap (List (Int)) 3 10 22 104 [(2, pv b2), (3, pv b4), (12, .agg #[.int .i64 n, ve]), (15, (.slice (some ⟨b9, 0, none⟩) n.toNat n.toNat)), (17, iv n), (21, (.slice (some ⟨b19, 0, none⟩) n.toNat n.toNat))] hA H fun b170 a w171 H hA hG hge_b170 => ?_
   replace hge_b170 := Nat.le_trans hD.1 hge_b170
   replace hD := hD.below hG
   refine ⟨fun _ => hD, ?_⟩
   exact (hM _ _ _ _).1 (hM79 _ _ _ b9 hge_b9 b19 hge_b19 b170 hge_b170 (env_sub _ hA) H hD)
 have hM83 : ∀ (a : Act) (w172 : World) (S : Stab) (b9 : Nat) (hge_b9 : w6.heap.size ≤ b9) (b21 : Nat) (hge_b21 : w6.heap.size ≤ b21), EnvOk 100 a (keepEnv [(2, pv b2), (3, pv b4), (12, .agg #[.int .i64 n, ve]), (15, (.slice (some ⟨b9, 0, none⟩) n.toNat n.toNat)), (17, iv n), (20, iv n), (22, (.map (some b21)))]) → Fr o w172 S (mapR Try.prog 3 (α := List (Int)) b21 [] :: .box b9 27 (arrV n (fun _ => .slice none 0 0)) :: .box b4 29 [vv, vl] :: .box b2 24 [.int .i64 n, ve] :: tl) → But w6 none w172 → M 5 #[true, true, true, true, true, true, false, true, true, false, true, false, false, false] a w172 := by
   intro a w172 S b9 hge_b9 b21 hge_b21 hA H hD
   refine (hM _ _ _ _).2 ?_
   refine m_many [6, 9] fun i_ hi_ => ?_
   simp only [List.mem_cons, List.not_mem_nil, or_false] at hi_
   rcases hi_ with rfl | rfl
   · skip
     refine q_makeA 6 18 27 (.tmp 17) 3 n (.int .i64 0) [(2, pv b2), (3, pv b4), (12, .agg #[.int .i64 n, ve]), (15, (.slice (some ⟨b9, 0, none⟩) n.toNat n.toNat)), (20, iv n), (22, (.map (some b21)))] hA H Try.underlying27 (make_info (by kernel_rfl)) (by omega) (by omega) fun b173 a w174 H hA hG hge_b173 => ?_
     replace hge_b173 := Nat.le_trans hD.1 hge_b173
     replace H : Fr _ _ _ (mapR Try.prog 3 (α := List (Int)) b21 [] :: .box b173 3 (arrV n fun j => .int .i64 (Deep.St.zero.met j)) :: .box b9 27 (arrV n (fun _ => .slice none 0 0)) :: .box b4 29 [vv, vl] :: .box b2 24 [.int .i64 n, ve] :: tl) := H.sink 1 1
     replace hD := hD.below hG
     refine ⟨fun _ => hD, ?_⟩
     exact (hM _ _ _ _).1 (hM78 _ _ _ b9 hge_b9 b173 hge_b173 b21 hge_b21 (env_sub _ hA) H hD)
   skip
   refine q_makeA 9 21 27 (.tmp 20) 3 n (.int .i64 0) [(2, pv b2), (3, pv b4), (12, .agg #[.int .i64 n, ve]), (15, (.slice (some ⟨b9, 0, none⟩) n.toNat n.toNat)), (17, iv n), (22, (.map (some b21)))] hA H Try.underlying27 (make_info (by kernel_rfl)) (by omega) (by omega) fun b175 a w176 H hA hG hge_b175 => ?_
   replace hge_b175 := Nat.le_trans hD.1 hge_b175
   replace H : Fr _ _ _ (mapR Try.prog 3 (α := List (Int)) b21 [] :: .box b175 3 (arrV n fun j => .int .i64 (Deep.St.zero.low j)) :: .box b9 27 (arrV n (fun _ => .slice none 0 0)) :: .box b4 29 [vv, vl] :: .box b2 24 [.int .i64 n, ve] :: tl) := H.sink 1 1
   replace hD := hD.below hG
   refine ⟨fun _ => hD, ?_⟩
   exact (hM _ _ _ _).1 (hM79 _ _ _ b9 hge_b9 b175 hge_b175 b21 hge_b21 (env_sub _ hA) H hD)
 have hM84 : ∀ (a : Act) (w177 : World) (S : Stab) (b11 : Nat) (hge_b11 : w6.heap.size ≤ b11) (b25 : Nat) (hge_b25 : w6.heap.size ≤ b25), EnvOk 100 a (keepEnv [(2, pv b2), (3, pv b4), (12, .agg #[.int .i64 n, ve]), (14, iv n), (18, (.slice (some ⟨b11, 0, none⟩) n.toNat n.toNat)), (21, (.slice (some ⟨b25, 0, none⟩) n.toNat n.toNat))]) → Fr o w177 S (.box b25 3 (arrV n fun j => .int .i64 (Deep.St.zero.low j)) :: .box b11 3 (arrV n fun j => .int .i64 (Deep.St.zero.met j)) :: .box b4 29 [vv, vl] :: .box b2 24 [.int .i64 n, ve] :: tl) → But w6 none w177 → M 5 #[true, true, true, false, true, true, true, true, true, true, false, false, false, false] a w177 := by
   intro a w177 S b11 hge_b11 b25 hge_b25 hA H hD
   refine (hM _ _ _ _).2 ?_
   refine m_many [3, 10] fun i_ hi_ => ?_
   simp only [List.mem_cons, List.not_mem_nil, or_false] at hi_
   rcases hi_ with rfl | rfl
   · skip
     refine q_makeA 3 15 67 (.tmp 14) 27 n (.slice none 0 0) [(2, pv b2), (3, pv b4), (12, .agg #[.int .i64 n, ve]), (18, (.slice (some ⟨b11, 0, none⟩) n.toNat n.toNat)), (21, (.slice (some ⟨b25, 0, none⟩) n.toNat n.toNat))] hA H Try.underlying67 (make_info (by kernel_rfl)) (by omega) (by omega) fun b178 a w179 H hA hG hge_b178 => ?_
     replace hge_b178 := Nat.le_trans hD.1 hge_b178
     replace H : Fr _ _ _ (.box b25 3 (arrV n fun j => .int .i64 (Deep.St.zero.low j)) :: .box b11 3 (arrV n fun j => .int .i64 (Deep.St.zero.met j)) :: .box b178 27 (arrV n (fun _ => .slice none 0 0)) :: .box b4 29 [vv, vl] :: .box b2 24 [.int .i64 n, ve] :: tl) := H.sink 1 2
     replace hD := hD.below hG
     refine ⟨fun _ => hD, ?_⟩
     exact (hM _ _ _ _).1 (hM77 _ _ _ b178 hge_b178 b11 hge_b11 b25 hge_b25 (env_sub _ hA) H hD)
   skip
   refine q_makeMap (List (Int)) 3 10 22 104 [(2, pv b2), (3, pv b4), (12, .agg #[.int .i64 n, ve]), (14, iv n), (18, (.slice (some ⟨b11, 0, none⟩) n.toNat n.toNat)), (21, (.slice (some ⟨b25, 0, none⟩) n.toNat n.toNat))] hA H fun b180 a w181 H hA hG hge_b180 => ?_
   replace hge_b180 := Nat.le_trans hD.1 hge_b180
   replace hD := hD.below hG
   refine ⟨fun _ => hD, ?_⟩
   exact (hM _ _ _ _).1 (hM80 _ _ _ b11 hge_b11 b25 hge_b25 b180 hge_b180 (env_sub _ hA) H hD)
 have hM85 : ∀ (a : Act) (w182 : World) (S : Stab) (b11 : Nat) (hge_b11 : w6.heap.size ≤ b11) (b27 : Nat) (hge_b27 : w6.heap.size ≤ b27), EnvOk 100 a (keepEnv [(2, pv b2), (3, pv b4), (12, .agg #[.int .i64 n, ve]), (14, iv n), (18, (.slice (some ⟨b11, 0, none⟩) n.toNat n.toNat)), (20, iv n), (22, (.map (some b27)))]) → Fr o w182 S (mapR Try.prog 3 (α := List (Int)) b27 [] :: .box b11 3 (arrV n fun j => .int .i64 (Deep.St.zero.met j)) :: .box b4 29 [vv, vl] :: .box b2 24 [.int .i64 n, ve] :: tl) → But w6 none w182 → M 5 #[true, true, true, false, true, true, true, true, true, false, true, false, false, false] a w182 := by
   intro a w182 S b11 hge_b11 b27 hge_b27 hA H hD
   refine (hM _ _ _ _).2 ?_
   refine m_many [3, 9] fun i_ hi_ => ?_
   simp only [List.mem_cons, List.not_mem_nil, or_false] at hi_
   rcases hi_ with rfl | rfl
   · skip
     refine q_makeA 3 15 67 (.tmp 14) 27 n (.slice none 0 0) [(2, pv b2), (3, pv b4), (12, .agg #[.int .i64 n, ve]), (18, (.slice (some ⟨b11, 0, none⟩) n.toNat n.toNat)), (20, iv n), (22, (.map (some b27)))] hA H Try.underlying67 (make_info (by kernel_rfl)) (by omega) (by omega) fun b183 a w184 H hA hG hge_b183 => ?_
     replace hge_b183 := Nat.le_trans hD.1 hge_b183
     replace H : Fr _ _ _ (mapR Try.prog 3 (α := List (Int)) b27 [] :: .box b11 3 (arrV n fun j => .int .i64 (Deep.St.zero.met j)) :: .box b183 27 (arrV n (fun _ => .slice none 0 0)) :: .box b4 29 [vv, vl] :: .box b2 24 [.int .i64 n, ve] :: tl) := H.sink 1 2
     replace hD := hD.below hG
     refine ⟨fun _ => hD, ?_⟩
     exact (hM _ _ _ _).1 (hM78 _ _ _ b183 hge_b183 b11 hge_b11 b27 hge_b27 (env_sub _ hA) H hD)
   skip
   refine q_makeA 9 21 27 (.tmp 20) 3 n (.int .i64 0) [(2, pv b2), (3, pv b4), (12, .agg #[.int .i64 n, ve]), (14, iv n), (18, (.slice (some ⟨b11, 0, none⟩) n.toNat n.toNat)), (22, (.map (some b27)))] hA H Try.underlying27 (make_info (by kernel_rfl)) (by omega) (by omega) fun b185 a w186 H hA hG hge_b185 => ?_
   replace hge_b185 := Nat.le_trans hD.1 hge_b185
   replace H : Fr _ _ _ (mapR Try.prog 3 (α := List (Int)) b27 [] :: .box b185 3 (arrV n fun j => .int .i64 (Deep.St.zero.low j)) :: .box b11 3 (arrV n fun j => .int .i64 (Deep.St.zero.met j)) :: .box b4 29 [vv, vl] :: .box b2 24 [.int .i64 n, ve] :: tl) := H.sink 1 1
   replace hD := hD.below hG
   refine ⟨fun _ => hD, ?_⟩
   exact (hM _ _ _ _).1 (hM80 _ _ _ b11 hge_b11 b185 hge_b185 b27 hge_b27 (env_sub _ hA) H hD)
 have hM86 : ∀ (a : Act) (w187 : World) (S : Stab) (b13 : Nat) (hge_b13 : w6.heap.size ≤ b13) (b33 : Nat) (hge_b33 : w6.heap.size ≤ b33), EnvOk 100 a (keepEnv [(2, pv b2), (3, pv b4), (12, .agg #[.int .i64 n, ve]), (14, iv n), (17, iv n), (21, (.slice (some ⟨b13, 0, none⟩) n.toNat n.toNat)), (22, (.map (some b33)))]) → Fr o w187 S (mapR Try.prog 3 (α := List (Int)) b33 [] :: .box b13 3 (arrV n fun j => .int .i64 (Deep.St.zero.low j)) :: .box b4 29 [vv, vl] :: .box b2 24 [.int .i64 n, ve] :: tl) → But w6 none w187 → M 5 #[true, true, true, false, true, true, false, true, true, true, true, false, false, false] a w187 := by
   intro a w187 S b13 hge_b13 b33 hge_b33 hA H hD
   refine (hM _ _ _ _).2 ?_
   refine m_many [3, 6] fun i_ hi_ => ?_
   simp only [List.mem_cons, List.not_mem_nil, or_false] at hi_
   rcases hi_ with rfl | rfl
   · skip
     refine q_makeA 3 15 67 (.tmp 14) 27 n (.slice none 0 0) [(2, pv b2), (3, pv b4), (12, .agg #[.int .i64 n, ve]), (17, iv n), (21, (.slice (some ⟨b13, 0, none⟩) n.toNat n.toNat)), (22, (.map (some b33)))] hA H Try.underlying67 (make_info (by kernel_rfl)) (by omega) (by omega) fun b188 a w189 H hA hG hge_b188 => ?_
     replace hge_b188 := Nat.le_trans hD.1 hge_b188
     replace H : Fr _ _ _ (mapR Try.prog 3 (α := List (Int)) b33 [] :: .box b13 3 (arrV n fun j => .int .i64 (Deep.St.zero.low j)) :: .box b188 27 (arrV n (fun _ => .slice none 0 0)) :: .box b4 29 [vv, vl] :: .box b2 24 [.int .i64 n, ve] :: tl) := H.sink 1 2
     replace hD := hD.below hG
     refine ⟨fun _ => hD, ?_⟩
     exact (hM _ _ _ _).1 (hM79 _ _ _ b188 hge_b188 b13 hge_b13 b33 hge_b33 (env_sub _ hA) H hD)
   skip
   refine q_makeA 6 18 27 (.tmp 17) 3 n (.int .i64 0) [(2, pv b2), (3, pv b4), (12, .agg #[.int .i64 n, ve]), (14, iv n), (21, (.slice (some ⟨b13, 0, none⟩) n.toNat n.toNat)), (22, (.map (some b33)))] hA H Try.underlying27 (make_info (by kernel_rfl)) (by omega) (by omega) fun b190 a w191 H hA hG hge_b190 => ?_
   replace hge_b190 := Nat.le_trans hD.1 hge_b190
   replace H : Fr _ _ _ (mapR Try.prog 3 (α := List (Int)) b33 [] :: .box b13 3 (arrV n fun j => .int .i64 (Deep.St.zero.low j)) :: .box b190 3 (arrV n fun j => .int .i64 (Deep.St.zero.met j)) :: .box b4 29 [vv, vl] :: .box b2 24 [.int .i64 n, ve] :: tl) := H.sink 1 2
   replace hD := hD.below hG
   refine ⟨fun _ => hD, ?_⟩
   exact (hM _ _ _ _).1 (hM80 _ _ _ b190 hge_b190 b13 hge_b13 b33 hge_b33 (env_sub _ hA) H hD)
 have hM87 : ∀ (a : Act) (w192 : World) (S : Stab) (b9 : Nat) (hge_b9 : w6.heap.size ≤ b9), EnvOk 100 a (keepEnv [(2, pv b2), (3, pv b4), (12, .agg #[.int .i64 n, ve]), (15, (.slice (some ⟨b9, 0, none⟩) n.toNat n.toNat)), (17, iv n), (20, iv n)]) → Fr o w192 S (.box b9 27 (arrV n (fun _ => .slice none 0 0)) :: .box b4 29 [vv, vl] :: .box b2 24 [.int .i64 n, ve] :: tl) → But w6 none w192 → M 6 #[true, true, true, true, true, true, false, true, true, false, false, false, false, false] a w192 := by
   intro a w192 S b9 hge_b9 hA H hD
   refine (hM _ _ _ _).2 ?_
   refine m_many [6, 9, 10] fun i_ hi_ => ?_
   simp only [List.mem_cons, List.not_mem_nil, or_false] at hi_
   rcases hi_ with rfl | rfl | rfl
   · skip
     refine q_makeA 6 18 27 (.tmp 17) 3 n (.int .i64 0) [(2, pv b2), (3, pv b4), (12, .agg #[.int .i64 n, ve]), (15, (.slice (some ⟨b9, 0, none⟩) n.toNat n.toNat)), (20, iv n)] hA H Try.underlying27 (make_info (by kernel_rfl)) (by omega) (by omega) fun b193 a w194 H hA hG hge_b193 => ?_
     replace hge_b193 := Nat.le_trans hD.1 hge_b193
     replace hD := hD.below hG
     refine ⟨fun _ => hD, ?_⟩
     exact (hM _ _ _ _).1 (hM81 _ _ _ b9 hge_b9 b193 hge_b193 (env_sub _ hA) H hD)
   · skip
     refine q_makeA 9 21 27 (.tmp 20) 3 n (.int .i64 0) [(2, pv b2), (3, pv b4), (12, .agg #[.int .i64 n, ve]), (15, (.slice (some ⟨b9, 0, none⟩) n.toNat n.toNat)), (17, iv n)] hA H Try.underlying27 (make_info (by kernel_rfl)) (by omega) (by omega) fun b195 a w196 H hA hG hge_b195 => ?_
     replace hge_b195 := Nat.le_trans hD.1 hge_b195
     replace hD := hD.below hG
     refine ⟨fun _ => hD, ?_⟩
     exact (hM _ _ _ _).1 (hM82 _ _ _ b9 hge_b9 b195 hge_b195 (env_sub _ hA) H hD)
   skip
   refine q_makeMap (List (Int)) 3 10 22 104 [(2, pv b2), (3, pv b4), (12, .agg #[.int .i64 n, ve]), (15, (.slice (some ⟨b9, 0, none⟩) n.toNat n.toNat)), (17, iv n), (20, iv n)] hA H fun b197 a w198 H hA hG hge_b197 => ?_
   replace hge_b197 := Nat.le_trans hD.1 hge_b197
   replace hD := hD.below hG
   refine ⟨fun _ => hD, ?_⟩
   exact (hM _ _ _ _).1 (hM83 _ _ _ b9 hge_b9 b197 hge_b197 (env_sub _ hA) H hD)
 have hM88 : ∀ (a : Act) (w199 : World) (S : Stab) (b11 : Nat) (hge_b11 : w6.heap.size ≤ b11), EnvOk 100 a (keepEnv [(2, pv b2), (3, pv b4), (12, .agg #[.int .i64 n, ve]), (14, iv n), (18, (.slice (some ⟨b11, 0, none⟩) n.toNat n.toNat)), (20, iv n)]) → Fr o w199 S (.box b11 3 (arrV n fun j => .int .i64 (Deep.St.zero.met j)) :: .box b4 29 [vv, vl] :: .box b2 24 [.int .i64 n, ve] :: tl) → But w6 none w199 → M 6 #[true, true, true, false, true, true, true, true, true, false, false, false, false, false] a w199 := by
   intro a w199 S b11 hge_b11 hA H hD
   refine (hM _ _ _ _).2 ?_
   refine m_many [3, 9, 10] fun i_ hi_ => ?_
   simp only [List.mem_cons, List.not_mem_nil, or_false] at hi_
   rcases hi_ with rfl | rfl | rfl
   · skip
     refine q_makeA 3 15 67 (.tmp 14) 27 n (.slice none 0 0) [(2, pv b2), (3, pv b4), (12, .agg #[.int .i64 n, ve]), (18, (.slice (some ⟨b11, 0, none⟩) n.toNat n.toNat)), (20, iv n)] hA H Try.underlying67 (make_info (by kernel_rfl)) (by omega) (by omega) fun b200 a w201 H hA hG hge_b200 => ?_
     replace hge_b200 := Nat.le_trans hD.1 hge_b200
     replace H : Fr _ _ _ (.box b11 3 (arrV n fun j => .int .i64 (Deep.St.zero.met j)) :: .box b200 27 (arrV n (fun _ => .slice none 0 0)) :: .box b4 29 [vv, vl] :: .box b2 24 [.int .i64 n, ve] :: tl) := H.sink 1 1
     replace hD := hD.below hG
     refine ⟨fun _ => hD, ?_⟩
     exact (hM _ _ _ _).1 (hM81 _ _ _ b200 hge_b200 b11 hge_b11 (env_sub _ hA) H hD)
   · skip
     refine q_makeA 9 21 27 (.tmp 20) 3 n (.int .i64 0) [(2, pv b2), (3, pv b4), (12, .agg #[.int .i64 n, ve]), (14, iv n), (18, (.slice (some ⟨b11, 0, none⟩) n.toNat n.toNat))] hA H Try.underlying27 (make_info (by kernel_rfl)) (by omega) (by omega) fun b202 a w203 H hA hG hge_b202 => ?_
     replace hge_b202 := Nat.le_trans hD.1 hge_b202
     replace hD := hD.below hG
     refine ⟨fun _ => hD, ?_⟩
     exact (hM _ _ _ _).1 (hM84 _ _ _ b11 hge_b11 b202 hge_b202 (env_sub _ hA) H hD)
   skip
   refine q_makeMap (List (Int)) 3 10 22 104 [(2, pv b2), (3, pv b4), (12, .agg #[.int .i64 n, ve]), (14, iv n), (18, (.slice (some ⟨b11, 0, none⟩) n.toNat n.toNat)), (20, iv n)] hA H fun b204 a w205 H hA hG hge_b204 => ?_
   replace hge_b204 := Nat.le_trans hD.1 hge_b204
   replace hD := hD.below hG
   refine ⟨fun _ => hD, ?_⟩
   exact (hM _ _ _ _).1 (hM85 _ _ _ b11 hge_b11 b204 hge_b204 (env_sub _ hA) H hD)
 have hM89 : ∀ (a : Act) (w206 : World) (S : Stab) (b13 : Nat) (hge_b13 : w6.heap.size ≤ b13), EnvOk 100 a (keepEnv [(2, pv b2), (3, pv b4), (12, .agg #[.int .i64 n, ve]), (14, iv n), (17, iv n), (21, (.slice (some ⟨b13, 0, none⟩) n.toNat n.toNat))]) → Fr o w206 S (.box b13 3 (arrV n fun j => .int .i64 (Deep.St.zero.low j)) :: .box b4 29 [vv, vl] :: .box b2 24 [.int .i64 n, ve] :: tl) → But w6 none w206 → M 6 #[true, true, true, false, true, true, false, true, true, true, false, false, false, false] a w206 := by
   intro a w206 S b13 hge_b13 hA H hD
   refine (hM _ _ _ _).2 ?_
   refine m_many [3, 6, 10] fun i_ hi_ => ?_
   simp only [List.mem_cons, List.not_mem_nil, or_false] at hi_
   rcases hi_ with rfl | rfl | rfl
   · skip
     refine q_makeA 3 15 67 (.tmp 14) 27 n (.slice none 0 0) [(2, pv b2), (3, pv b4), (12, .agg #[.int .i64 n, ve]), (17, iv n), (21, (.slice (some ⟨b13, 0, none⟩) n.toNat n.toNat))] hA H Try.underlying67 (make_info (by kernel_rfl)) (by omega) (by omega) fun b207 a w208 H hA hG hge_b207 => ?_
     replace hge_b207 := Nat.le_trans hD.1 hge_b207
     replace H : Fr _ _ _ (.box b13 3 (arrV n fun j => .int .i64 (Deep.St.zero.low j)) :: .box b207 27 (arrV n (fun _ => .slice none 0 0)) :: .box b4 29 [vv, vl] :: .box b2 24 [.int .i64 n, ve] :: tl) := H.sink 1 1
     replace hD := hD.below hG
     refine ⟨fun _ => hD, ?_⟩
     exact (hM _ _ _ _).1 (hM82 _ _ _ b207 hge_b207 b13 hge_b13 (env_sub _ hA) H hD)
   · skip
     refine q_makeA 6 18 27 (.tmp 17) 3 n (.int .i64 0) [(2, pv b2), (3, pv b4), (12, .agg #[.int .i64 n, ve]), (14, iv n), (21, (.slice (some ⟨b13, 0, none⟩) n.toNat n.toNat))] hA H Try.underlying27 (make_info (by kernel_rfl)) (by omega) (by omega) fun b209 a w210 H hA hG hge_b209 => ?_
     replace hge_b209 := Nat.le_trans hD.1 hge_b209
     replace H : Fr _ _ _ (.box b13 3 (arrV n fun j => .int .i64 (Deep.St.zero.low j)) :: .box b209 3 (arrV n fun j => .int .i64 (Deep.St.zero.met j)) :: .box b4 29 [vv, vl] :: .box b2 24 [.int .i64 n, ve] :: tl) := H.sink 1 1
     replace hD := hD.below hG
     refine ⟨fun _ => hD, ?_⟩
     exact (hM _ _ _ _).1 (hM84 _ _ _ b209 hge_b209 b13 hge_b13 (env_sub _ hA) H hD)
   skip
   refine q_makeMap (List (Int)) 3 10 22 104 [(2, pv b2), (3, pv b4), (12, .agg #[.int .i64 n, ve]), (14, iv n), (17, iv n), (21, (.slice (some ⟨b13, 0, none⟩) n.toNat n.toNat))] hA H fun b211 a w212 H hA hG hge_b211 => ?_
   replace hge_b211 := Nat.le_trans hD.1 hge_b211
   replace hD := hD.below hG
   refine ⟨fun _ => hD, ?_⟩
   exact (hM _ _ _ _).1 (hM86 _ _ _ b13 hge_b13 b211 hge_b211 (env_sub _ hA) H hD)
 have hM90 : ∀ (a : Act) (w213 : World) (S : Stab) (b15 : Nat) (hge_b15 : w6.heap.size ≤ b15), EnvOk 100 a (keepEnv [(2, pv b2), (3, pv b4), (12, .agg #[.int .i64 n, ve]), (14, iv n), (17, iv n), (20, iv n), (22, (.map (some b15)))]) → Fr o w213 S (mapR Try.prog 3 (α := List (Int)) b15 [] :: .box b4 29 [vv, vl] :: .box b2 24 [.int .i64 n, ve] :: tl) → But w6 none w213 → M 6 #[true, true, true, false, true, true, false, true, true, false, true, false, false, false] a w213 := by
   intro a w213 S b15 hge_b15 hA H hD
   refine (hM _ _ _ _).2 ?_
   refine m_many [3, 6, 9] fun i_ hi_ => ?_
   simp only [List.mem_cons, List.not_mem_nil, or_false] at hi_
   rcases hi_ with rfl | rfl | rfl
   · skip
     refine q_makeA 3 15 67 (.tmp 14) 27 n (.slice none 0 0) [(2, pv b2), (3, pv b4), (12, .agg #[.int .i64 n, ve]), (17, iv n), (20, iv n), (22, (.map (some b15)))] hA H Try.underlying67 (make_info (by kernel_rfl)) (by omega) (by omega) fun b214 a w215 H hA hG hge_b214 => ?_
     replace hge_b214 := Nat.le_trans hD.1 hge_b214
     replace H : Fr _ _ _ (mapR Try.prog 3 (α := List (Int)) b15 [] :: .box b214 27 (arrV n (fun _ => .slice none 0 0)) :: .box b4 29 [vv, vl] :: .box b2 24 [.int .i64 n, ve] :: tl) := H.sink 1 1
     replace hD := hD.below hG
     refine ⟨fun _ => hD, ?_⟩
     exact (hM _ _ _ _).1 (hM83 _ _ _ b214 hge_b214 b15 hge_b15 (env_sub _ hA) H hD)
   · skip
     refine q_makeA 6 18 27 (.tmp 17) 3 n (.int .i64 0) [(2, pv b2), (3, pv b4), (12, .agg #[.int .i64 n, ve]), (14, iv n), (20, iv n), (22, (.map (some b15)))] hA H Try.underlying27 (make_info (by kernel_rfl)) (by omega) (by omega) fun b216 a w217 H hA hG hge_b216 => ?_
     replace hge_b216 := Nat.le_trans hD.1 hge_b216
     replace H : Fr _ _ _ (mapR Try.prog 3 (α := List (Int)) b15 [] :: .box b216 3 (arrV n fun j => .int .i64 (Deep.St.zero.met j)) :: .box b4 29 [vv, vl] :: .box b2 24 [.int .i64 n, ve] :: tl) := H.sink 1 1
     replace hD := hD.below hG
     refine ⟨fun _ => hD, ?_⟩
     exact (hM _ _ _ _).1 (hM85 _ _ _ b216 hge_b216 b15 hge_b15 (env_sub _ hA) H hD)
   skip
   refine q_makeA 9 21 27 (.tmp 20) 3 n (.int .i64 0) [(2, pv b2), (3, pv b4), (12, .agg #[.int .i64 n, ve]), (14, iv n), (17, iv n), (22, (.map (some b15)))] hA H Try.underlying27 (make_info (by kernel_rfl)) (by omega) (by omega) fun b218 a w219 H hA hG hge_b218 => ?_
   replace hge_b218 := Nat.le_trans hD.1 hge_b218
   replace H : Fr _ _ _ (mapR Try.prog 3 (α := List (Int)) b15 [] :: .box b218 3 (arrV n fun j => .int .i64 (Deep.St.zero.low j)) :: .box b4 29 [vv, vl] :: .box b2 24 [.int .i64 n, ve] :: tl) := H.sink 1 1
   replace hD := hD.below hG
   refine ⟨fun _ => hD, ?_⟩
   exact (hM _ _ _ _).1 (hM86 _ _ _ b218 hge_b218 b15 hge_b15 (env_sub _ hA) H hD)
 have hM91 : ∀ (a : Act) (w220 : World) (S : Stab), EnvOk 100 a (keepEnv [(2, pv b2), (3, pv b4), (12, .agg #[.int .i64 n, ve]), (14, iv n), (17, iv n), (20, iv n)]) → Fr o w220 S (.box b4 29 [vv, vl] :: .box b2 24 [.int .i64 n, ve] :: tl) → But w6 none w220 → M 7 #[true, true, true, false, true, true, false, true, true, false, false, false, false, false] a w220 := by
   intro a w220 S  hA H hD
   refine (hM _ _ _ _).2 ?_
   refine m_many [3, 6, 9, 10] fun i_ hi_ => ?_
   simp only [List.mem_cons, List.not_mem_nil, or_false] at hi_
   rcases hi_ with rfl | rfl | rfl | rfl
   · skip
     refine q_makeA 3 15 67 (.tmp 14) 27 n (.slice none 0 0) [(2, pv b2), (3, pv b4), (12, .agg #[.int .i64 n, ve]), (17, iv n), (20, iv n)] hA H Try.underlying67 (make_info (by kernel_rfl)) (by omega) (by omega) fun b221 a w222 H hA hG hge_b221 => ?_
     replace hge_b221 := Nat.le_trans hD.1 hge_b221
     replace hD := hD.below hG
     refine ⟨fun _ => hD, ?_⟩
     exact (hM _ _ _ _).1 (hM87 _ _ _ b221 hge_b221 (env_sub _ hA) H hD)
   · skip
     refine q_makeA 6 18 27 (.tmp 17) 3 n (.int .i64 0) [(2, pv b2), (3, pv b4), (12, .agg #[.int .i64 n, ve]), (14, iv n), (20, iv n)] hA H Try.underlying27 (make_info (by kernel_rfl)) (by omega) (by omega) fun b223 a w224 H hA hG hge_b223 => ?_
     replace hge_b223 := Nat.le_trans hD.1 hge_b223
     replace hD := hD.below hG
     refine ⟨fun _ => hD, ?_⟩
     exact (hM _ _ _ _).1 (hM88 _ _ _ b223 hge_b223 (env_sub _ hA) H hD)
   · skip
     refine q_makeA 9 21 27 (.tmp 20) 3 n (.int .i64 0) [(2, pv b2), (3, pv b4), (12, .agg #[.int .i64 n, ve]), (14, iv n), (17, iv n)] hA H Try.underlying27 (make_info (by kernel_rfl)) (by omega) (by omega) fun b225 a w226 H hA hG hge_b225 => ?_
     replace hge_b225 := Nat.le_trans hD.1 hge_b225
     replace hD := hD.below hG
     refine ⟨fun _ => hD, ?_⟩
     exact (hM _ _ _ _).1 (hM89 _ _ _ b225 hge_b225 (env_sub _ hA) H hD)
   skip
   refine q_makeMap (List (Int)) 3 10 22 104 [(2, pv b2), (3, pv b4), (12, .agg #[.int .i64 n, ve]), (14, iv n), (17, iv n), (20, iv n)] hA H fun b227 a w228 H hA hG hge_b227 => ?_
   replace hge_b227 := Nat.le_trans hD.1 hge_b227
   replace hD := hD.below hG
   refine ⟨fun _ => hD, ?_⟩
   exact (hM _ _ _ _).1 (hM90 _ _ _ b227 hge_b227 (env_sub _ hA) H hD)
 exact hM91 _ _ _ (env_sub _ hA) H hD
theorem bspan_any (n : Int) (ve : Value) (E : List (Int × Int)) (vl : Value) (L : List Int) (o : Orig) (hn : -9223372036854775808 ≤ n ∧ n ≤ 9223372036854775807) (hE : Rd (· < o.w.heap.size) o.w ve E) (hL : Rd (· < o.w.heap.size) o.w vl L) (hx : risesP L (E.length : Int)) (hs : (E.length : Int) ≤ 100000) :
 Calls Try.prog 83 [.agg #[.int .i64 n, ve], vl].toArray o.w (Giv o (fun S v w' => Rd S w' v ((Lib.compact (sortL (endsL E L)), L)))) := by
 have hl9 := rises_len hx (by omega)
 refine enter Try.f83 43 Try.func83 fun a hA => ?_
 replace hA := env_sub [(0, .agg #[.int .i64 n, ve]), (1, vl)] hA
 have H := Fr.start o
 refine go_seq fun K1 hK1 => ?_
 refine region_list ?_
 refine list_at 0 ?_; refine q_box 0 2 24 (.tmp 0) (.agg #[.int .i64 n, ve]) [.int .i64 n, ve] [(1, vl)] hA H fun b2 a w3 H hA hG hge_b2 => ?_
 clear hge_b2
 refine list_at 1 ?_; refine q_alloc 1 4 29 [(.slice none 0 0), (.slice none 0 0)] [(1, vl), (2, pv b2)] hA H fun b4 a w5 H hA hG hge_b4 => ?_
 clear hge_b4
 refine list_end ?_
 refine hK1 _ _ ?_
 refine go_seq fun K6 hK6 => ?_
 refine region_list ?_
 refine q_list 0 1 [] [(1, vl), (2, pv b2), (4, pv b4), (8, vl)] (TT ∧ True) hA H ⟨tv, tv⟩ fun a w7 hA H hG => ?_
 refine list_at 1 ?_; refine q_any 1 9 105 #[.tmp 8] #[27] [vl] _ [(1, vl), (2, pv b2), (4, pv b4)] hA (clone_row H (H.arg hL) (by (try simp only [List.length_cons]); omega)) fun v8 a w9 hR10 hA => ?_
 obtain ⟨H, hG⟩ := hR10
 refine q_list 2 1 [(10, .agg #[(.slice none 0 0), v8])] [(1, vl), (2, pv b2), (4, pv b4), (10, .agg #[(.slice none 0 0), v8])] ((∀ w, (Instr.build 29 #[(1, v8)]).run Try.prog w = .ok (.agg #[(.slice none 0 0), v8]) w) ∧ True) hA H ⟨fun w => by obtain ⟨_, _, _, e0⟩ := rd_form (H.out 0 rfl); rw [e0]; kernel_rfl, tv⟩ fun a w12 hA H hG => ?_
 refine list_at 3 ?_; refine q_alloc 3 5 29 [(.slice none 0 0), (.slice none 0 0)] [(1, vl), (2, pv b2), (4, pv b4), (10, .agg #[(.slice none 0 0), v8])] hA H fun b13 a w14 H hA hG hge_b13 => ?_
 clear hge_b13
 refine list_at 4 ?_; refine q_store 4 29 (.tmp 5) (.tmp 10) 0 b13 (0) 29 [(.slice none 0 0), (.slice none 0 0)] [(.slice none 0 0), v8] [(.slice none 0 0), v8] (.agg #[(.slice none 0 0), v8]) [(1, vl), (2, pv b2), (4, pv b4), (5, pv b13)] hA H rfl rfl (Nat.le_of_ble_eq_true (by kernel_rfl)) rfl (fun v hv => by simp only [List.mem_cons, List.not_mem_nil, or_false] at hv; rcases hv with rfl | rfl; exact rfl; exact (rd_one (H.out 1 rfl))) fun a w15 H hA hG => ?_
 replace H : Fr _ _ _ [.box b13 29 [(.slice none 0 0), v8], .row 3 v8 L, .box b4 29 [(.slice none 0 0), (.slice none 0 0)], .box b2 24 [.int .i64 n, ve]] := H
 refine list_end ?_
 refine hK6 _ _ ?_
 refine go_seq fun K16 hK16 => ?_
 refine go_seq fun K17 hK17 => ?_
 replace H := H.newRow (α := Int) 3
 replace H : Fr _ _ _ [.row 3 (.slice none 0 0) ([] : List Int), .box b13 29 [(.slice none 0 0), v8], .row 3 v8 L, .box b4 29 [(.slice none 0 0), (.slice none 0 0)], .box b2 24 [.int .i64 n, ve]] := H
 refine q_reg [(12, iv (L.length : Int))] [(2, pv b2), (4, pv b4), (5, pv b13), (11, vl), (12, iv (L.length : Int)), (13, iv 0)] (TT ∧ (LenOk vl (L.length : Int)) ∧ TT ∧ True) hA H ⟨tv, by exact len_ok (H.arg hL), tv, tv⟩ fun a w18 hA H hG => ?_
 refine hK17 _ _ ?_
 refine go_block 0 ?_
 refine go_loop_ (Int × Value × List Int) (fun x_ a W => (fun (i : Int) (vr : Value) (l : List Int) => EnvOk 43 a (keepEnv [(2, pv b2), (4, pv b4), (5, pv b13), (11, vl), (12, iv (L.length : Int)), (13, iv i)]) ∧ (∃ S, Fr o W S [.row 3 vr l, .box b13 29 [vr, v8], .row 3 v8 L, .box b4 29 [(.slice none 0 0), (.slice none 0 0)], .box b2 24 [.int .i64 n, ve]]) ∧ 0 ≤ i ∧ i ≤ (L.length : Int) ∧ (l.length : Int) ≤ 2 * i ∧ l ++ endsL E (L.drop i.toNat) = endsL E L) x_.1 x_.2.1 x_.2.2) (fun x_ => (fun (i : Int) (vr : Value) (l : List Int) => ((L.length : Int) - i).toNat) x_.1 x_.2.1 x_.2.2) (0, .slice none 0 0, []) ?_ (fun x_ a w20 hI => ?_)
 · (try dsimp only); exact ⟨env_sub _ hA, ⟨_, H⟩, by omega, by omega, by simp, by simp⟩
 obtain ⟨i, vr, l⟩ := x_
 obtain ⟨hA, ⟨S, H⟩, h0, h0b, h1, hi⟩ := hI
 try dsimp only at h0 h0b h1 hi
 replace H : Fr _ _ _ [.row 3 vr l, .box b13 29 [vr, v8], .row 3 v8 L, .box b4 29 [(.slice none 0 0), (.slice none 0 0)], .box b2 24 [.int .i64 n, ve]] := H
 refine go_seq fun K21 hK21 => ?_
 refine q_reg [] [(2, pv b2), (4, pv b4), (5, pv b13), (11, vl), (12, iv (L.length : Int)), (13, iv i), (14, .bool (decide (i < (L.length : Int))))] (TT ∧ True) hA H ⟨tv, tv⟩ fun a w22 hA H hG => ?_
 refine hK21 _ _ ?_
 refine go_seq fun K23 hK23 => ?_
 refine go_cond hA (.tmp 14) (decide (i < (L.length : Int))) (fun hb24 => ?_) (fun hb24 => ?_)
 · have hhb24 := of_decide_eq_true hb24
   refine go_skip ?_
   refine hK23 _ _ ?_
   refine go_seq fun K25 hK25 => ?_
   refine go_block 1 ?_
   refine go_seq fun K26 hK26 => ?_
   have hx9 := hx i.toNat (by omega)
   refine q_reg [(16, iv (L.getD i.toNat 0))] [(2, pv b2), (4, pv b4), (5, pv b13), (7, iv (L.getD i.toNat 0)), (11, vl), (12, iv (L.length : Int)), (13, iv i)] (((Try.prog.info? 3).isSome = true ∧ IdxOk vl i) ∧ (CellOk (On w22) (hdB vl) (hdO vl + i.toNat * 1) (.int .i64 (L.getD i.toNat 0))) ∧ TT ∧ True) hA H ⟨⟨by kernel_rfl, by exact idx_ok (H.arg hL) (by omega) (by omega)⟩, by exact cell_flat (i := i) (H.arg hL) (by omega) (by omega) 0 0, tv, tv⟩ fun a w27 hA H hG => ?_
   refine hK26 _ _ ?_
   have H0 := H
   have hM0 := H0.keeps vr.ownBlock (.inr ⟨_, List.mem_of_getElem? (i := 0) rfl, rfl⟩)
   refine region_mix (But w27 vr.ownBlock) [0, 1, 2, 3, 4, 5, 6, 7, 8, 9, 10, 11, 12, 13, 14, 15] 18 ?_
   replace H := H.drawn; have hD := But.drew w27 vr.ownBlock
   generalize ({ w27 with drawn := w27.drawn + 1 } : World) = w28 at H hD ⊢
   refine m_take (n := 4) [0, 1, 2, 3, 4, 5, 6, 7, 8, 9, 10, 11, 12, 13] #[true, true, true, true, true, true, true, true, true, true, true, true, true, true, false, false, false, false] [(18, vr), (20, ve), (24, iv ((E.getD (L.getD i.toNat 0).toNat (0, 0)).1)), (26, ve), (30, iv ((E.getD (L.getD i.toNat 0).toNat (0, 0)).2))] [(2, pv b2), (4, pv b4), (5, pv b13), (11, vl), (12, iv (L.length : Int)), (13, iv i), (18, vr), (24, iv ((E.getD (L.getD i.toNat 0).toNat (0, 0)).1)), (30, iv ((E.getD (L.getD i.toNat 0).toNat (0, 0)).2))] ((0 < Try.prog.cellsOf 27) ∧ (CellOk (But w27 vr.ownBlock) b13 (0 + 0) (vr)) ∧ (0 < Try.prog.cellsOf 22) ∧ (CellOk (But w27 vr.ownBlock) b2 (0 + 1) (ve)) ∧ TT ∧ ((Try.prog.info? 99).isSome = true ∧ IdxOk ve (L.getD i.toNat 0)) ∧ (0 < Try.prog.cellsOf 3) ∧ (CellOk (But w27 vr.ownBlock) (hdB ve) (hdO ve + (L.getD i.toNat 0).toNat * 2 + 0) (.int .i64 ((E.getD (L.getD i.toNat 0).toNat (0, 0)).1))) ∧ (0 < Try.prog.cellsOf 22) ∧ (CellOk (But w27 vr.ownBlock) b2 (0 + 1) (ve)) ∧ TT ∧ ((Try.prog.info? 99).isSome = true ∧ IdxOk ve (L.getD i.toNat 0)) ∧ (0 < Try.prog.cellsOf 3) ∧ (CellOk (But w27 vr.ownBlock) (hdB ve) (hdO ve + (L.getD i.toNat 0).toNat * 2 + 1) (.int .i64 ((E.getD (L.getD i.toNat 0).toNat (0, 0)).2))) ∧ True) hA hD ⟨by decide +kernel, by exact box_cellC (box_atC H0 vr.ownBlock 1 rfl (H0.apart 1 0 (by decide) rfl rfl rfl)) 0, by decide +kernel, by exact box_cellC (box_atC H0 vr.ownBlock 4 rfl (H0.apart 4 0 (by decide) rfl rfl rfl)) 1, tv, ⟨by kernel_rfl, by exact idx_ok (H0.argT hE) (by omega) (by omega)⟩, by decide +kernel, by exact cell_flatC hM0 (i := (L.getD i.toNat 0)) (H0.argT hE) (by omega) (by omega) (0, 0) 0, by decide +kernel, by exact box_cellC (box_atC H0 vr.ownBlock 4 rfl (H0.apart 4 0 (by decide) rfl rfl rfl)) 1, tv, ⟨by kernel_rfl, by exact idx_ok (H0.argT hE) (by omega) (by omega)⟩, by decide +kernel, by exact cell_flatC hM0 (i := (L.getD i.toNat 0)) (H0.argT hE) (by omega) (by omega) (0, 0) 1, tv⟩ fun a hA => ?_
   refine m_one 14 ?_; refine q_lit 14 31 27 2 #[(0, .tmp 24), (1, .tmp 30)] 3 [(0, iv ((E.getD (L.getD i.toNat 0).toNat (0, 0)).1)), (1, iv ((E.getD (L.getD i.toNat 0).toNat (0, 0)).2))] [.int .i64 ((E.getD (L.getD i.toNat 0).toNat (0, 0)).1), .int .i64 ((E.getD (L.getD i.toNat 0).toNat (0, 0)).2)] [(2, pv b2), (4, pv b4), (5, pv b13), (11, vl), (12, iv (L.length : Int)), (13, iv i), (18, vr)] hA H fun b29 a w30 H hA hG hge_b29 => ?_
   replace hge_b29 := Nat.le_trans hD.1 hge_b29
   replace hD := hD.below hG
   refine ⟨fun _ => hD, ?_⟩
   refine m_one 15 ?_; refine q_push 15 32 (.tmp 18) (.tmp 31) 1 0 b29 2 2 vr l [(E.getD (L.getD i.toNat 0).toNat (0, 0)).1, (E.getD (L.getD i.toNat 0).toNat (0, 0)).2] [.int .i64 ((E.getD (L.getD i.toNat 0).toNat (0, 0)).1), .int .i64 ((E.getD (L.getD i.toNat 0).toNat (0, 0)).2)] [(2, pv b2), (4, pv b4), (5, pv b13), (11, vl), (12, iv (L.length : Int)), (13, iv i)] hA H Try.E27 rfl rfl (by exact ((RowRd.single (α := Int) rfl).append (RowRd.single (α := Int) rfl))) rfl (by simp only [List.length_cons, List.length_nil, List.length_append]; omega) (by decide) fun v31 a w32 H hA hG => ?_
   replace H : Fr _ _ _ [.row 3 v31 (l ++ [(E.getD (L.getD i.toNat 0).toNat (0, 0)).1, (E.getD (L.getD i.toNat 0).toNat (0, 0)).2]), .box b13 29 [vr, v8], .row 3 v8 L, .box b4 29 [(.slice none 0 0), (.slice none 0 0)], .box b2 24 [.int .i64 n, ve]] := H.drop 0
   replace hD := hD.grown hG (fun b hb => .inl hb.symm)
   refine ⟨fun _ => hD, ?_⟩
   refine m_one 16 ?_; refine q_one 16 [] [(2, pv b2), (4, pv b4), (5, pv b13), (11, vl), (12, iv (L.length : Int)), (13, iv i), (32, v31), (33, .pointer (some ⟨b13, 0 + 0, none⟩))] ((0 < Try.prog.cellsOf 27) ∧ True) hA H ⟨by decide +kernel, tv⟩ fun a w33 H hA hG => ?_
   refine ⟨fun h => absurd h (by decide), ?_⟩
   refine m_one 17 ?_; refine q_store 17 27 (.tmp 33) (.tmp 32) 1 b13 (0 + 0) 29 [vr, v8] [v31] [v31, v8] v31 [(2, pv b2), (4, pv b4), (5, pv b13), (11, vl), (12, iv (L.length : Int)), (13, iv i)] hA H rfl (one_cells (rd_one (H.out 0 rfl))) (Nat.le_of_ble_eq_true (by kernel_rfl)) rfl (fun v hv => by simp only [List.mem_cons, List.not_mem_nil, or_false] at hv; rcases hv with rfl; exact (rd_one (H.out 0 rfl))) fun a w34 H hA hG => ?_
   replace H : Fr _ _ _ [.row 3 v31 (l ++ [(E.getD (L.getD i.toNat 0).toNat (0, 0)).1, (E.getD (L.getD i.toNat 0).toNat (0, 0)).2]), .box b13 29 [v31, v8], .row 3 v8 L, .box b4 29 [(.slice none 0 0), (.slice none 0 0)], .box b2 24 [.int .i64 n, ve]] := H
   refine ⟨fun h => absurd h (by decide), ?_⟩
   refine m_end ?_
   refine hK25 _ _ ?_
   refine q_reg [] [(2, pv b2), (4, pv b4), (5, pv b13), (11, vl), (12, iv (L.length : Int)), (13, iv (i + 1))] ((InR .i64 (i + 1)) ∧ TT ∧ True) hA H ⟨⟨by omega, by omega⟩, tv, tv⟩ fun a w35 hA H hG => ?_
   refine ⟨(i + 1, v31, l ++ [(E.getD (L.getD i.toNat 0).toNat (0, 0)).1, (E.getD (L.getD i.toNat 0).toNat (0, 0)).2]), ⟨env_sub _ hA, ⟨_, H⟩, ?_⟩, ?_⟩
   · (try dsimp only); exact ⟨by omega, by omega, by (try simp only [List.length_append, List.length_cons, List.length_nil]); omega, by rw [endsL_round h0 (by omega)] at hi; (try simp only [List.append_assoc] at hi ⊢); exact hi⟩
   (try dsimp only); omega
 have hhb24 := of_decide_eq_false hb24
 refine go_exit 0 ?_
 refine hK16 _ _ ?_
 refine go_seq fun K36 hK36 => ?_
 rw [endsL_end (by omega), List.append_nil] at hi
 have hl1 : l.length ≤ 1000000 := by omega
 refine region_list ?_
 refine q_list 0 2 [(36, vr)] [(4, pv b4), (5, pv b13), (36, vr)] ((0 < Try.prog.cellsOf 27) ∧ (CellOk (On w22) b13 (0 + 0) (vr)) ∧ True) hA H ⟨by decide +kernel, by exact box_cell H 1 rfl 0, tv⟩ fun a w37 hA H hG => ?_
 refine list_at 2 ?_; refine q_any 2 37 74 #[.tmp 36] #[27] [vr] _ [(4, pv b4), (5, pv b13)] hA (by exact sort_row H 0 rfl (by first | omega | (simp only [List.length_mergeSort]; omega) | (simp only [List.length_cons]; omega))) fun v38 a w39 hR40 hA => ?_
 obtain ⟨H, hG⟩ := hR40
 replace H : Fr _ _ _ [.row 3 vr (sortL l), .box b13 29 [vr, v8], .row 3 v8 L, .box b4 29 [(.slice none 0 0), (.slice none 0 0)], .box b2 24 [.int .i64 n, ve]] := H
 refine list_end ?_
 refine hK36 _ _ ?_
 refine go_seq fun K41 hK41 => ?_
 refine region_list ?_
 refine q_list 0 2 [(39, vr)] [(4, pv b4), (5, pv b13), (39, vr)] ((0 < Try.prog.cellsOf 27) ∧ (CellOk (On w39) b13 (0 + 0) (vr)) ∧ True) hA H ⟨by decide +kernel, by exact box_cell H 1 rfl 0, tv⟩ fun a w42 hA H hG => ?_
 refine list_at 2 ?_; refine q_any 2 40 75 #[.tmp 39] #[27] [vr] _ [(4, pv b4), (5, pv b13)] hA (by exact compact_row H 0 rfl (by first | omega | (simp only [List.length_mergeSort]; omega) | (simp only [List.length_cons]; omega))) fun v43 a w44 hR45 hA => ?_
 obtain ⟨H, hG⟩ := hR45
 replace H : Fr _ _ _ [.row 3 v43 (Lib.compact (sortL l)), .box b13 29 [vr, v8], .row 3 v8 L, .box b4 29 [(.slice none 0 0), (.slice none 0 0)], .box b2 24 [.int .i64 n, ve]] := H
 refine q_list 3 1 [] [(4, pv b4), (5, pv b13), (40, v43), (41, .pointer (some ⟨b13, 0 + 0, none⟩))] ((0 < Try.prog.cellsOf 27) ∧ True) hA H ⟨by decide +kernel, tv⟩ fun a w46 hA H hG => ?_
 refine list_at 4 ?_; refine q_store 4 27 (.tmp 41) (.tmp 40) 1 b13 (0 + 0) 29 [vr, v8] [v43] [v43, v8] v43 [(4, pv b4), (5, pv b13)] hA H rfl (one_cells (rd_one (H.out 0 rfl))) (Nat.le_of_ble_eq_true (by kernel_rfl)) rfl (fun v hv => by simp only [List.mem_cons, List.not_mem_nil, or_false] at hv; rcases hv with rfl; exact (rd_one (H.out 0 rfl))) fun a w47 H hA hG => ?_
 replace H : Fr _ _ _ [.row 3 v43 (Lib.compact (sortL l)), .box b13 29 [v43, v8], .row 3 v8 L, .box b4 29 [(.slice none 0 0), (.slice none 0 0)], .box b2 24 [.int .i64 n, ve]] := H
 refine list_end ?_
 refine hK41 _ _ ?_
 refine go_seq fun K48 hK48 => ?_
 refine region_list ?_
 refine q_list 0 1 [(42, .agg #[v43, v8])] [(4, pv b4), (42, .agg #[v43, v8])] (((Try.prog.info? 29).isSome = true ∧ RowOk (On w47) b13 (0) (Try.prog.cellsOf 29) #[v43, v8]) ∧ True) hA H ⟨⟨by kernel_rfl, by exact box_row H 1 rfl 0 2⟩, tv⟩ fun a w49 hA H hG => ?_
 refine list_at 1 ?_; refine q_store 1 29 (.tmp 4) (.tmp 42) 3 b4 (0) 29 [(.slice none 0 0), (.slice none 0 0)] [v43, v8] [v43, v8] (.agg #[v43, v8]) [(4, pv b4)] hA H rfl rfl (Nat.le_of_ble_eq_true (by kernel_rfl)) rfl (fun v hv => by simp only [List.mem_cons, List.not_mem_nil, or_false] at hv; rcases hv with rfl | rfl; exact (rd_one (H.out 0 rfl)); exact (rd_one (H.out 2 rfl))) fun a w50 H hA hG => ?_
 replace H : Fr _ _ _ [.row 3 v43 (Lib.compact (sortL l)), .box b13 29 [v43, v8], .row 3 v8 L, .box b4 29 [v43, v8], .box b2 24 [.int .i64 n, ve]] := H
 refine list_end ?_
 refine hK48 _ _ ?_
 refine go_ret_ ?_
 refine ret_cell 4 29 3 b4 29 [v43, v8] #[v43, v8] hA H rfl ?_ (ht := ⟨_, Try.underlying29⟩)
 have hV2 := (H.give 0 rfl); have hE2 := (H.give 2 rfl); rw [hi] at hV2
 exact ⟨_, rfl, rd_two hV2 hE2, H.below⟩
theorem blocks_any (n : Int) (ve : Value) (E : List (Int × Int)) (vv vl : Value) (V L : List Int) (o : Orig) (hn : -9223372036854775808 ≤ n ∧ n ≤ 9223372036854775807) (hE : Rd (· < o.w.heap.size) o.w ve E) (hV : Rd (· < o.w.heap.size) o.w vv V) (hL : Rd (· < o.w.heap.size) o.w vl L) :
 Calls Try.prog 47 [.agg #[.int .i64 n, ve], .agg #[vv, vl]].toArray o.w (Giv o (fun S v w' => ∃ p, v = .tuple #[p, .int .i64 (partE n E V L)] ∧ Rd S w' p (blocksE n E V L))) := by
 refine enter Try.f47 41 Try.func47 fun a hA => ?_
 replace hA := env_sub [(0, .agg #[.int .i64 n, ve]), (1, .agg #[vv, vl])] hA
 have H := Fr.start o
 refine go_seq fun K1 hK1 => ?_
 refine region_list ?_
 refine list_at 0 ?_; refine q_box 0 2 24 (.tmp 0) (.agg #[.int .i64 n, ve]) [.int .i64 n, ve] [(1, .agg #[vv, vl])] hA H fun b2 a w3 H hA hG hge_b2 => ?_
 clear hge_b2
 refine list_at 1 ?_; refine q_box 1 3 29 (.tmp 1) (.agg #[vv, vl]) [vv, vl] [(2, pv b2)] hA H fun b4 a w5 H hA hG hge_b4 => ?_
 clear hge_b4
 refine q_list 2 2 [] [(2, pv b2), (3, pv b4)] (TT ∧ TT ∧ True) hA H ⟨tv, tv, tv⟩ fun a w6 hA H hG => ?_
 refine list_end ?_
 refine hK1 _ _ ?_
 refine go_seq fun K7 hK7 => ?_
 refine go_seq fun K8 hK8 => ?_
 refine q_reg [(11, .agg #[.int .i64 n, ve]), (12, .agg #[vv, vl]), (13, iv (partE n E V L))] [(2, pv b2), (3, pv b4), (6, iv (partE n E V L))] (((Try.prog.info? 24).isSome = true ∧ RowOk (On w6) b2 (0) (Try.prog.cellsOf 24) #[.int .i64 n, ve]) ∧ ((Try.prog.info? 29).isSome = true ∧ RowOk (On w6) b4 (0) (Try.prog.cellsOf 29) #[vv, vl]) ∧ (Callable Try.prog 31 ∧ CallOk Try.prog (On w6) 31 [.agg #[.int .i64 n, ve], .agg #[vv, vl]].toArray (.int .i64 (partE n E V L))) ∧ TT ∧ True) hA H ⟨⟨by kernel_rfl, by exact box_row H 1 rfl 0 2⟩, ⟨by kernel_rfl, by exact box_row H 0 rfl 0 2⟩, ⟨callable_of, callOk_of fun w hw => by exact rightPart_any n ve E vv vl V L w (by omega) (((H.on hw).arg hE)) (((H.on hw).arg hV)) (((H.on hw).arg hL))⟩, tv, tv⟩ fun a w9 hA H hG => ?_
 refine hK8 _ _ ?_
 refine go_seq fun K10 hK10 => ?_
 refine q_reg [] [(2, pv b2), (3, pv b4), (6, iv (partE n E V L)), (15, .bool (!decide (partE n E V L = 0)))] (TT ∧ TT ∧ True) hA H ⟨tv, tv, tv⟩ fun a w11 hA H hG => ?_
 refine hK10 _ _ ?_
 refine go_cond hA (.tmp 15) (!decide (partE n E V L = 0)) (fun hb12 => ?_) (fun hb12 => ?_)
 · have hhb12 := of_decide_eq_false (nT hb12)
   refine go_seq fun K13 hK13 => ?_
   refine q_reg [] [(4, (.slice none 0 0)), (5, iv (partE n E V L))] (TT ∧ TT ∧ TT ∧ True) hA H ⟨tv, tv, tv, tv⟩ fun a w14 hA H hG => ?_
   refine hK13 _ _ ?_
   refine go_ret_ ?_
   refine ret_two 4 5 (.slice none 0 0) (.int .i64 (partE n E V L)) hA ?_
   exact ⟨_, rfl, ⟨_, rfl, by unfold blocksE; rw [if_pos hhb12]; exact rd_nil⟩, H.below⟩
 have hhb12 := of_decide_eq_true (nF hb12)
 refine go_skip ?_
 refine hK7 _ _ ?_
 refine go_seq fun K15 hK15 => ?_
 have hpt : partE n E V L = 0 := by omega
 have hr9 := rightE_0 (part_iff.1 hpt).1
 refine region_list ?_
 refine q_list 0 2 [(17, .agg #[.int .i64 n, ve]), (18, .agg #[vv, vl])] [(2, pv b2), (17, .agg #[.int .i64 n, ve]), (18, .agg #[vv, vl])] (((Try.prog.info? 24).isSome = true ∧ RowOk (On w11) b2 (0) (Try.prog.cellsOf 24) #[.int .i64 n, ve]) ∧ ((Try.prog.info? 29).isSome = true ∧ RowOk (On w11) b4 (0) (Try.prog.cellsOf 29) #[vv, vl]) ∧ True) hA H ⟨⟨by kernel_rfl, by exact box_row H 1 rfl 0 2⟩, ⟨by kernel_rfl, by exact box_row H 0 rfl 0 2⟩, tv⟩ fun a w16 hA H hG => ?_
 obtain ⟨s', hroots, hbd, hrest, hmet⟩ := find_ex hpt
 refine list_at 2 ?_; refine q_any 2 19 80 #[.tmp 17, .tmp 18] #[24, 29] [.agg #[.int .i64 n, ve], .agg #[vv, vl]] (fun u9 w9 => ∃ fb mb lb pb vd DL S ev ins, u9 = .pointer (some ⟨fb, 0, none⟩) ∧ Fr o w9 S (finR n ve vd DL fb mb lb pb s' ev ins [.box b4 29 [vv, vl], .box b2 24 [.int .i64 n, ve]]) ∧ insOf ins = s'.ins) [(2, pv b2)] hA ((find_any n ve E vv vl V L o _ s' [.box b4 29 [vv, vl], .box b2 24 [.int .i64 n, ve]] _ hpt hE hV hL H hroots hbd).mono fun e9 w9 ⟨fb, mb, lb, pb, vd, DL, S, ev, ins, h9, h10⟩ => ⟨_, h9, fb, mb, lb, pb, vd, DL, S, ev, ins, rfl, h10⟩) fun v17 a w18 hR19 hA => ?_
 obtain ⟨fb, mb, lb, pb, vd, DL, S, ev, ins, rfl, H, hins⟩ := hR19
 replace H : Fr _ _ _ [.box fb 106 [.int .i64 n, ve, vd, (.slice (some ⟨mb, 0, none⟩) n.toNat n.toNat), (.slice (some ⟨lb, 0, none⟩) n.toNat n.toNat), .int .i64 s'.cnt, ev, (.map (some pb))], .box mb 3 (arrV n fun j => .int .i64 (s'.met j)), .box lb 3 (arrV n fun j => .int .i64 (s'.low j)), .row 3 ev s'.stk, mapR Try.prog 3 pb ins, .ro vd DL, .box b4 29 [vv, vl], .box b2 24 [.int .i64 n, ve]] := H
 refine q_list 3 4 [(22, (.map (some pb)))] [(2, pv b2), (7, (.map (some pb)))] (TT ∧ (0 < Try.prog.cellsOf 104) ∧ (CellOk (On w18) fb (0 + 7) ((.map (some pb)))) ∧ TT ∧ True) hA H ⟨tv, by decide +kernel, by exact box_cell H 0 rfl 7, tv, tv⟩ fun a w20 hA H hG => ?_
 refine list_end ?_
 refine hK15 _ _ ?_
 refine go_seq fun K21 hK21 => ?_
 have hil : ins.length ≤ 1000000000 := by have := hbd.ins; rw [← hins, List.length_map] at this; exact this
 refine q_reg [] [(2, pv b2), (7, (.map (some pb))), (8, (.slice none 0 0))] (TT ∧ True) hA H ⟨tv, tv⟩ fun a w22 hA H hG => ?_
 refine hK21 _ _ ?_
 refine go_seq fun K23 hK23 => ?_
 refine go_seq fun K24 hK24 => ?_
 refine region_list ?_
 refine q_list 0 1 [] [(2, pv b2), (7, (.map (some pb))), (8, (.slice none 0 0)), (23, (.map (some pb)))] (TT ∧ True) hA H ⟨tv, tv⟩ fun a w25 hA H hG => ?_
 refine list_at 1 ?_; refine q_any 1 24 82 #[.tmp 23] #[104] [(.map (some pb))] (fun u9 w9 => ∃ kb, u9 = .func (.func 104) #[] #[.pointer (some ⟨kb, 0, none⟩)] ∧ Fr o w9 S (.box kb 104 [.map (some pb)] :: [.box fb 106 [.int .i64 n, ve, vd, (.slice (some ⟨mb, 0, none⟩) n.toNat n.toNat), (.slice (some ⟨lb, 0, none⟩) n.toNat n.toNat), .int .i64 s'.cnt, ev, (.map (some pb))], .box mb 3 (arrV n fun j => .int .i64 (s'.met j)), .box lb 3 (arrV n fun j => .int .i64 (s'.low j)), .row 3 ev s'.stk, mapR Try.prog 3 pb ins, .ro vd DL, .box b4 29 [vv, vl], .box b2 24 [.int .i64 n, ve]]) ∧ Below w25.heap.size w25 w9) [(2, pv b2), (7, (.map (some pb))), (8, (.slice none 0 0))] hA ((keys_box _).mono fun e9 w9 h9 => ⟨_, h9.1, _, rfl, h9.2 ▸ H.newBox _ _, h9.2 ▸ below_new _ _⟩) fun v26 a w27 hR28 hA => ?_
 obtain ⟨kb29, rfl, H, hG⟩ := hR28
 replace H : Fr _ _ _ [.box kb29 104 [.map (some pb)], .box fb 106 [.int .i64 n, ve, vd, (.slice (some ⟨mb, 0, none⟩) n.toNat n.toNat), (.slice (some ⟨lb, 0, none⟩) n.toNat n.toNat), .int .i64 s'.cnt, ev, (.map (some pb))], .box mb 3 (arrV n fun j => .int .i64 (s'.met j)), .box lb 3 (arrV n fun j => .int .i64 (s'.low j)), .row 3 ev s'.stk, mapR Try.prog 3 pb ins, .ro vd DL, .box b4 29 [vv, vl], .box b2 24 [.int .i64 n, ve]] := H
 refine list_at 2 ?_; refine q_any 2 25 81 #[.tmp 24] #[111] [.func (.func 104) #[] #[.pointer (some ⟨kb29, 0, none⟩)]] _ [(2, pv b2), (7, (.map (some pb))), (8, (.slice none 0 0))] hA (sorted_row H 5 0 rfl rfl hil) fun v30 a w31 hR32 hA => ?_
 obtain ⟨⟨K, hK, hKm, H⟩, hG⟩ := hR32
 replace H : Fr _ _ _ [.row 3 v30 K, .box kb29 104 [.map (some pb)], .box fb 106 [.int .i64 n, ve, vd, (.slice (some ⟨mb, 0, none⟩) n.toNat n.toNat), (.slice (some ⟨lb, 0, none⟩) n.toNat n.toNat), .int .i64 s'.cnt, ev, (.map (some pb))], .box mb 3 (arrV n fun j => .int .i64 (s'.met j)), .box lb 3 (arrV n fun j => .int .i64 (s'.low j)), .row 3 ev s'.stk, mapR Try.prog 3 pb ins, .ro vd DL, .box b4 29 [vv, vl], .box b2 24 [.int .i64 n, ve]] := H
 refine q_list 3 2 [(26, iv (K.length : Int))] [(2, pv b2), (7, (.map (some pb))), (8, (.slice none 0 0)), (25, v30), (26, iv (K.length : Int)), (27, iv 0)] ((LenOk v30 (K.length : Int)) ∧ TT ∧ True) hA H ⟨by exact len_ok (H.out 0 rfl), tv, tv⟩ fun a w33 hA H hG => ?_
 refine list_end ?_
 refine hK24 _ _ ?_
 refine go_block 0 ?_
 replace H := H.newRow (α := List Int × List Int) 29
 refine go_loop_ (Int × Value × List (List Int × List Int)) (fun x_ a W => (fun (i : Int) (vr : Value) (l : List (List Int × List Int)) => EnvOk 41 a (keepEnv [(2, pv b2), (7, (.map (some pb))), (8, vr), (25, v30), (26, iv (K.length : Int)), (27, iv i)]) ∧ (∃ S, Fr o W S [.row 29 vr l, .row 3 v30 K, .box kb29 104 [.map (some pb)], .box fb 106 [.int .i64 n, ve, vd, (.slice (some ⟨mb, 0, none⟩) n.toNat n.toNat), (.slice (some ⟨lb, 0, none⟩) n.toNat n.toNat), .int .i64 s'.cnt, ev, (.map (some pb))], .box mb 3 (arrV n fun j => .int .i64 (s'.met j)), .box lb 3 (arrV n fun j => .int .i64 (s'.low j)), .row 3 ev s'.stk, mapR Try.prog 3 pb ins, .ro vd DL, .box b4 29 [vv, vl], .box b2 24 [.int .i64 n, ve]]) ∧ 0 ≤ i ∧ i ≤ (K.length : Int) ∧ (l.length : Int) ≤ i ∧ l = (K.take i.toNat).map (fun k => (Lib.compact (sortL (endsL E (valAt ins k))), valAt ins k))) x_.1 x_.2.1 x_.2.2) (fun x_ => (fun (i : Int) (vr : Value) (l : List (List Int × List Int)) => ((K.length : Int) - i).toNat) x_.1 x_.2.1 x_.2.2) (0, .slice none 0 0, []) ?_ (fun x_ a w35 hI => ?_)
 · (try dsimp only); exact ⟨env_sub _ hA, ⟨_, H⟩, by omega, by omega, by simp, by simp⟩
 obtain ⟨i, vr, l⟩ := x_
 obtain ⟨hA, ⟨S, H⟩, h0, h0b, h1, hi⟩ := hI
 try dsimp only at h0 h0b h1 hi
 replace H : Fr _ _ _ [.row 29 vr l, .row 3 v30 K, .box kb29 104 [.map (some pb)], .box fb 106 [.int .i64 n, ve, vd, (.slice (some ⟨mb, 0, none⟩) n.toNat n.toNat), (.slice (some ⟨lb, 0, none⟩) n.toNat n.toNat), .int .i64 s'.cnt, ev, (.map (some pb))], .box mb 3 (arrV n fun j => .int .i64 (s'.met j)), .box lb 3 (arrV n fun j => .int .i64 (s'.low j)), .row 3 ev s'.stk, mapR Try.prog 3 pb ins, .ro vd DL, .box b4 29 [vv, vl], .box b2 24 [.int .i64 n, ve]] := H
 refine go_seq fun K36 hK36 => ?_
 have hKl := keys_len hK hKm
 refine q_reg [] [(2, pv b2), (7, (.map (some pb))), (8, vr), (25, v30), (26, iv (K.length : Int)), (27, iv i), (28, .bool (decide (i < (K.length : Int))))] (TT ∧ True) hA H ⟨tv, tv⟩ fun a w37 hA H hG => ?_
 refine hK36 _ _ ?_
 refine go_seq fun K38 hK38 => ?_
 refine go_cond hA (.tmp 28) (decide (i < (K.length : Int))) (fun hb39 => ?_) (fun hb39 => ?_)
 · have hhb39 := of_decide_eq_true hb39
   refine go_skip ?_
   refine hK38 _ _ ?_
   refine go_seq fun K40 hK40 => ?_
   refine go_block 1 ?_
   refine go_seq fun K41 hK41 => ?_
   refine q_reg [(30, iv (K.getD i.toNat 0))] [(2, pv b2), (7, (.map (some pb))), (8, vr), (10, iv (K.getD i.toNat 0)), (25, v30), (26, iv (K.length : Int)), (27, iv i)] (((Try.prog.info? 3).isSome = true ∧ IdxOk v30 i) ∧ (CellOk (On w37) (hdB v30) (hdO v30 + i.toNat * 1) (.int .i64 (K.getD i.toNat 0))) ∧ TT ∧ True) hA H ⟨⟨by kernel_rfl, by exact idx_ok (H.out 1 rfl) (by omega) (by omega)⟩, by exact cell_flat (i := i) (H.out 1 rfl) (by omega) (by omega) 0 0, tv, tv⟩ fun a w42 hA H hG => ?_
   refine hK41 _ _ ?_
   obtain ⟨lv, hlv⟩ := (hKm (K.getD i.toNat 0)).1 (mem_getD.2 ⟨i.toNat, by omega, rfl⟩)
   obtain ⟨⟨u, rv⟩, hla⟩ := lastAt_some hlv
   have hmem := lastAt_mem hla
   have hinm : ((K.getD i.toNat 0), rv) ∈ s'.ins := by rw [← hins]; exact List.mem_map.2 ⟨_, hmem, rfl⟩
   have hval : valAt ins (K.getD i.toNat 0) = rv := by unfold valAt; rw [hla]
   obtain ⟨hc1, hc2, hc3⟩ := ins_class hpt hrest hmet hinm
   have hxs : risesP rv (E.length : Int) := by have h9 := (part_iff.1 hpt).2.2.1; rw [show rv = _ from hc2]; exact rises_sub ((rises_iff.1 h9).1.sublist List.filter_sublist) h9 fun x hx => (List.mem_filter.1 hx).1
   have hkw := (rises_iff.1 (part_iff.1 hpt).2.2.1).2 _ hc1
   obtain ⟨hlk, hlr⟩ := map_look (t := 104) H 7 rfl hla (show wfI _ from ⟨by omega, by omega⟩) Try.underlying104 Try.underlying3 (z := .slice none 0 0) (fun w => by kernel_rfl)
   replace H := (H.ro hlr).sink 1 11
   replace H : Fr _ _ _ [.row 29 vr l, .row 3 v30 K, .box kb29 104 [.map (some pb)], .box fb 106 [.int .i64 n, ve, vd, (.slice (some ⟨mb, 0, none⟩) n.toNat n.toNat), (.slice (some ⟨lb, 0, none⟩) n.toNat n.toNat), .int .i64 s'.cnt, ev, (.map (some pb))], .box mb 3 (arrV n fun j => .int .i64 (s'.met j)), .box lb 3 (arrV n fun j => .int .i64 (s'.low j)), .row 3 ev s'.stk, mapR Try.prog 3 pb ins, .ro vd DL, .box b4 29 [vv, vl], .box b2 24 [.int .i64 n, ve], .ro u rv] := H
   refine region_list ?_
   refine q_list 0 5 [(32, .agg #[.int .i64 n, ve]), (35, u)] [(2, pv b2), (7, (.map (some pb))), (25, v30), (26, iv (K.length : Int)), (27, iv i), (31, vr), (32, .agg #[.int .i64 n, ve]), (35, u)] (TT ∧ ((Try.prog.info? 24).isSome = true ∧ RowOk (On w42) b2 (0) (Try.prog.cellsOf 24) #[.int .i64 n, ve]) ∧ TT ∧ TT ∧ (∀ w', On w42 w' → (Instr.lookup 104 (.map (some pb)) (.int .i64 (K.getD i.toNat 0)) false).run Try.prog w' = .ok u w') ∧ True) hA H ⟨tv, ⟨by kernel_rfl, by exact box_row H 10 rfl 0 2⟩, tv, tv, by exact hlk, tv⟩ fun a w43 hA H hG => ?_
   refine list_at 5 ?_; refine q_call 5 36 83 #[.tmp 32, .tmp 35] #[24, 27] [.agg #[.int .i64 n, ve], u] (fun S v_ w' => Rd S w' v_ ((Lib.compact (sortL (endsL E rv)), rv))) [(2, pv b2), (7, (.map (some pb))), (25, v30), (26, iv (K.length : Int)), (27, iv i), (31, vr)] hA H (by exact bspan_any n ve E u rv H.at (by omega) ((H.arg hE)) ((H.get 11 rfl)) hxs (by omega)) fun v44 a w45 S hR46 H hA hG => ?_
   obtain ⟨v44a, v44b, rfl, hR46a, hR46b⟩ := two_rd hR46
   replace H := H.ro hR46a; replace H := H.ro hR46b
   replace H : Fr _ _ _ [.ro v44b rv, .ro v44a (Lib.compact (sortL (endsL E rv))), .row 29 vr l, .row 3 v30 K, .box kb29 104 [.map (some pb)], .box fb 106 [.int .i64 n, ve, vd, (.slice (some ⟨mb, 0, none⟩) n.toNat n.toNat), (.slice (some ⟨lb, 0, none⟩) n.toNat n.toNat), .int .i64 s'.cnt, ev, (.map (some pb))], .box mb 3 (arrV n fun j => .int .i64 (s'.met j)), .box lb 3 (arrV n fun j => .int .i64 (s'.low j)), .row 3 ev s'.stk, mapR Try.prog 3 pb ins, .ro vd DL, .box b4 29 [vv, vl], .box b2 24 [.int .i64 n, ve], .ro u rv] := H
   refine list_at 6 ?_; refine q_lit 6 37 56 1 #[(0, .tmp 36)] 29 [(0, .agg #[v44a, v44b])] [v44a, v44b] [(2, pv b2), (7, (.map (some pb))), (25, v30), (26, iv (K.length : Int)), (27, iv i), (31, vr)] hA H fun b49 a w50 H hA hG hge_b49 => ?_
   clear hge_b49
   refine list_at 7 ?_; refine q_push 7 38 (.tmp 31) (.tmp 37) 3 0 b49 1 1 vr l [(Lib.compact (sortL (endsL E rv)), rv)] [v44a, v44b] [(2, pv b2), (7, (.map (some pb))), (25, v30), (26, iv (K.length : Int)), (27, iv i)] hA H Try.E56 rfl rfl (by exact (RowRd.single (α := (List (Int)) × List (Int)) ⟨[_], _, rfl, ⟨_, rfl, rd_slice (H.getS 2 rfl)⟩, ⟨_, rfl, rd_slice (H.getS 1 rfl)⟩⟩)) rfl (by simp only [List.length_cons, List.length_nil, List.length_append]; omega) (by decide) fun v51 a w52 H hA hG => ?_
   replace H : Fr _ _ _ [.ro v44b rv, .ro v44a (Lib.compact (sortL (endsL E rv))), .row 29 v51 (l ++ [(Lib.compact (sortL (endsL E rv)), rv)]), .row 3 v30 K, .box kb29 104 [.map (some pb)], .box fb 106 [.int .i64 n, ve, vd, (.slice (some ⟨mb, 0, none⟩) n.toNat n.toNat), (.slice (some ⟨lb, 0, none⟩) n.toNat n.toNat), .int .i64 s'.cnt, ev, (.map (some pb))], .box mb 3 (arrV n fun j => .int .i64 (s'.met j)), .box lb 3 (arrV n fun j => .int .i64 (s'.low j)), .row 3 ev s'.stk, mapR Try.prog 3 pb ins, .ro vd DL, .box b4 29 [vv, vl], .box b2 24 [.int .i64 n, ve], .ro u rv] := H.drop 0
   refine q_list 8 1 [] [(2, pv b2), (7, (.map (some pb))), (8, v51), (25, v30), (26, iv (K.length : Int)), (27, iv i)] (TT ∧ True) hA H ⟨tv, tv⟩ fun a w53 hA H hG => ?_
   refine list_end ?_
   refine hK40 _ _ ?_
   refine q_reg [] [(2, pv b2), (7, (.map (some pb))), (8, v51), (25, v30), (26, iv (K.length : Int)), (27, iv (i + 1))] ((InR .i64 (i + 1)) ∧ TT ∧ True) hA H ⟨⟨by omega, by omega⟩, tv, tv⟩ fun a w54 hA H hG => ?_
   replace H := H.drop 13
   replace H := H.drop 1
   replace H := H.drop 0
   refine ⟨(i + 1, v51, l ++ [(Lib.compact (sortL (endsL E rv)), rv)]), ⟨env_sub _ hA, ⟨_, H⟩, ?_⟩, ?_⟩
   · (try dsimp only); exact ⟨by omega, by omega, by (try simp only [List.length_append, List.length_cons, List.length_nil]); omega, by rw [hi, take_snoc h0 (by omega), List.map_append]; simp only [List.map_cons, List.map_nil, hval]⟩
   (try dsimp only); omega
 have hhb39 := of_decide_eq_false hb39
 refine go_exit 0 ?_
 refine hK23 _ _ ?_
 refine go_seq fun K55 hK55 => ?_
 refine q_reg [] [(4, vr), (5, iv 0)] (TT ∧ TT ∧ TT ∧ True) hA H ⟨tv, tv, tv, tv⟩ fun a w56 hA H hG => ?_
 refine hK55 _ _ ?_
 refine go_ret_ ?_
 refine ret_two 4 5 vr (.int .i64 0) hA ?_
 have ho := (H.give 0 rfl)
 rw [List.take_of_length_le (by omega)] at hi; have hbe := blocks_val hpt hrest hmet hins hK hKm; rw [hi, hbe] at ho
 exact ⟨_, rfl, ⟨_, by rw [hpt], by unfold blocksE; rw [if_neg (by omega)]; exact ho⟩, H.below⟩
theorem solid_any (n : Int) (ve : Value) (E : List (Int × Int)) (vv vl : Value) (V L : List Int) (w : World) (hn : -9223372036854775808 ≤ n ∧ n ≤ 9223372036854775807) (hE : Rd (· < w.heap.size) w ve E) (hV : Rd (· < w.heap.size) w vv V) (hL : Rd (· < w.heap.size) w vl L) :
 Calls Try.prog 50 [.agg #[.int .i64 n, ve], .agg #[vv, vl]].toArray w (Ans (.bool (solidB n E V L)) w) := by
 refine enter Try.f50 27 Try.func50 fun a hA => ?_
 replace hA := env_sub [(0, .agg #[.int .i64 n, ve]), (1, .agg #[vv, vl])] hA
 have H := Fr.start (org w)
 refine go_seq fun K1 hK1 => ?_
 refine region_list ?_
 refine list_at 0 ?_; refine q_box 0 2 24 (.tmp 0) (.agg #[.int .i64 n, ve]) [.int .i64 n, ve] [(1, .agg #[vv, vl])] hA H fun b2 a w3 H hA hG hge_b2 => ?_
 clear hge_b2
 refine list_at 1 ?_; refine q_box 1 3 29 (.tmp 1) (.agg #[vv, vl]) [vv, vl] [(2, pv b2)] hA H fun b4 a w5 H hA hG hge_b4 => ?_
 clear hge_b4
 refine q_list 2 1 [] [(2, pv b2), (3, pv b4)] (TT ∧ True) hA H ⟨tv, tv⟩ fun a w6 hA H hG => ?_
 refine list_end ?_
 refine hK1 _ _ ?_
 refine go_seq fun K7 hK7 => ?_
 refine region_list ?_
 refine q_list 0 2 [(8, .agg #[.int .i64 n, ve]), (9, .agg #[vv, vl])] [(3, pv b4), (8, .agg #[.int .i64 n, ve]), (9, .agg #[vv, vl])] (((Try.prog.info? 24).isSome = true ∧ RowOk (On w6) b2 (0) (Try.prog.cellsOf 24) #[.int .i64 n, ve]) ∧ ((Try.prog.info? 29).isSome = true ∧ RowOk (On w6) b4 (0) (Try.prog.cellsOf 29) #[vv, vl]) ∧ True) hA H ⟨⟨by kernel_rfl, by exact box_row H 1 rfl 0 2⟩, ⟨by kernel_rfl, by exact box_row H 0 rfl 0 2⟩, tv⟩ fun a w8 hA H hG => ?_
 refine list_at 2 ?_; refine q_call 2 10 47 #[.tmp 8, .tmp 9] #[24, 29] [.agg #[.int .i64 n, ve], .agg #[vv, vl]] (fun S v_ w' => ∃ p_, v_ = .tuple #[p_, .int .i64 (partE n E V L)] ∧ Rd S w' p_ ((blocksE n E V L))) [(3, pv b4)] hA H (by exact blocks_any n ve E vv vl V L H.at (by omega) ((H.arg hE)) ((H.arg hV)) ((H.arg hL))) fun v9 a w10 S hR11 H hA hG => ?_
 obtain ⟨v9p, rfl, hR11p⟩ := hR11
 replace H := H.ro hR11p
 replace H : Fr _ _ _ [.ro v9p (blocksE n E V L), .box b4 29 [vv, vl], .box b2 24 [.int .i64 n, ve]] := H
 refine q_list 3 5 [] [(3, pv b4), (5, v9p), (6, iv (partE n E V L))] (TT ∧ TT ∧ TT ∧ TT ∧ TT ∧ True) hA H ⟨tv, tv, tv, tv, tv, tv⟩ fun a w13 hA H hG => ?_
 refine list_end ?_
 refine hK7 _ _ ?_
 refine go_seq fun K14 hK14 => ?_
 obtain ⟨ea15, eb16, hea15c, hea15a, hea15b⟩ := cell_twoC (C := On w13) H.keepsS (H.getS 0 rfl) (0 : Int)
 refine q_draw [(17, iv ((blocksE n E V L).length : Int)), (23, .agg #[ea15, eb16]), (24, .agg #[vv, vl]), (25, .bool (decide ((((blocksE n E V L).getD (0 : Int).toNat ([], [])).1) = V) && decide ((((blocksE n E V L).getD (0 : Int).toNat ([], [])).2) = L)))] [(4, .bool (((decide (partE n E V L = 0)) && (decide (((blocksE n E V L).length : Int) = 1))) && (decide ((((blocksE n E V L).getD (0 : Int).toNat ([], [])).1) = V) && decide ((((blocksE n E V L).getD (0 : Int).toNat ([], [])).2) = L))))] (TT ∧ TT ∧ TT ∧ ((decide (partE n E V L = 0)) = true → True) ∧ ((decide (partE n E V L = 0)) = true → LenOk v9p ((blocksE n E V L).length : Int)) ∧ ((decide (partE n E V L = 0)) = true → True) ∧ TT ∧ TT ∧ (((decide (partE n E V L = 0)) && (decide (((blocksE n E V L).length : Int) = 1))) = true → True) ∧ (((decide (partE n E V L = 0)) && (decide (((blocksE n E V L).length : Int) = 1))) = true → (Try.prog.info? 29).isSome = true ∧ IdxOk v9p 0) ∧ (((decide (partE n E V L = 0)) && (decide (((blocksE n E V L).length : Int) = 1))) = true → (Try.prog.info? 29).isSome = true ∧ RowOk (On w13) (hdB v9p) (hdO v9p + (0 : Int).toNat * 2) (Try.prog.cellsOf 29) #[ea15, eb16]) ∧ (((decide (partE n E V L = 0)) && (decide (((blocksE n E V L).length : Int) = 1))) = true → (Try.prog.info? 29).isSome = true ∧ RowOk (On w13) b4 (0) (Try.prog.cellsOf 29) #[vv, vl]) ∧ (((decide (partE n E V L = 0)) && (decide (((blocksE n E V L).length : Int) = 1))) = true → Callable Try.prog 28 ∧ CallOk Try.prog (On w13) 28 [.agg #[ea15, eb16], .agg #[vv, vl]].toArray (.bool (decide ((((blocksE n E V L).getD (0 : Int).toNat ([], [])).1) = V) && decide ((((blocksE n E V L).getD (0 : Int).toNat ([], [])).2) = L)))) ∧ TT ∧ TT ∧ True) hA H ⟨tv, tv, tv, fun _ => tv, fun _ => by exact len_ok (H.get 0 rfl), fun _ => tv, tv, tv, fun _ => tv, fun hg0 => by replace hg0 := (⟨of_decide_eq_true ((aT hg0).1), of_decide_eq_true ((aT hg0).2)⟩ : _ ∧ _); exact ⟨by kernel_rfl, by exact idx_ok (H.get 0 rfl) (by omega) (by omega)⟩, fun hg0 => by replace hg0 := (⟨of_decide_eq_true ((aT hg0).1), of_decide_eq_true ((aT hg0).2)⟩ : _ ∧ _); exact ⟨by kernel_rfl, by exact hea15c (by omega) (by omega)⟩, fun _ => ⟨by kernel_rfl, by exact box_row H 1 rfl 0 2⟩, fun hg0 => by replace hg0 := (⟨of_decide_eq_true ((aT hg0).1), of_decide_eq_true ((aT hg0).2)⟩ : _ ∧ _); exact ⟨callable_of, callOk_of fun w hw => by exact same_any ea15 eb16 vv vl (((blocksE n E V L).getD (0 : Int).toNat ([], [])).1) (((blocksE n E V L).getD (0 : Int).toNat ([], [])).2) V L w ((rd_on (Rd.up H.inb (hea15a (by omega) (by omega))) hw)) ((rd_on (Rd.up H.inb (hea15b (by omega) (by omega))) hw)) (((H.on hw).arg hV)) (((H.on hw).arg hL))⟩, tv, tv, tv⟩ fun a w17 hA H hG => ?_
 refine hK14 _ _ ?_
 refine go_ret_ ?_
 refine ret_one 4 (.bool (((decide (partE n E V L = 0)) && (decide (((blocksE n E V L).length : Int) = 1))) && (decide ((((blocksE n E V L).getD (0 : Int).toNat ([], [])).1) = V) && decide ((((blocksE n E V L).getD (0 : Int).toNat ([], [])).2) = L)))) hA ?_
 exact ans_b' rfl H.below
theorem pright_any (vl : Value) (l : List (Int × Int × Int)) (w : World) (hL : Rd (· < w.heap.size) w vl l) (hs : l.length ≤ 100000) (hwf : WfL l) :
 Calls Try.prog 59 [vl].toArray w (Ans (.bool (rightK l)) w) := by
 have hwb := whole_bd l
 have hwc := whole_len (l := l) (by omega)
 refine enter Try.f59 18 Try.func59 fun a hA => ?_
 replace hA := env_sub [(0, vl)] hA
 have H := Fr.start (org w)
 refine go_seq fun K1 hK1 => ?_
 refine q_reg [] [(0, vl)] (TT ∧ True) hA H ⟨tv, tv⟩ fun a w2 hA H hG => ?_
 refine hK1 _ _ ?_
 refine go_seq fun K3 hK3 => ?_
 refine region_list ?_
 refine q_list 0 1 [] [(7, vl)] (TT ∧ True) hA H ⟨tv, tv⟩ fun a w4 hA H hG => ?_
 refine list_at 1 ?_; refine q_call 1 8 87 #[.tmp 7] #[69] [vl] _ [] hA H (by exact pwhole_any vl l H.at ((H.arg hL)) (by omega) hwf) fun v5 a w6 S hR7 H hA hG => ?_
 obtain ⟨v5g, v5p, rfl, hR7g, hR7p⟩ := hR7
 obtain ⟨v5e, rfl, hR7e⟩ := gp_rd hR7g; obtain ⟨v5a, v5b, rfl, hR7a, hR7b⟩ := two_rd hR7p
 replace H := H.ro hR7e; replace H := H.ro hR7a; replace H := H.ro hR7b
 replace H : Fr _ _ _ [.ro v5b ((wholeR l).1.2.2), .ro v5a ((wholeR l).1.2.1), .ro v5e ((wholeR l).1.1.2)] := H
 refine q_list 2 4 [] [(9, .agg #[.int .i64 ((wholeR l).1.1.1), v5e]), (10, .agg #[v5a, v5b]), (11, .bool ((wholeR l).2))] (TT ∧ TT ∧ TT ∧ TT ∧ True) hA H ⟨tv, tv, tv, tv, tv⟩ fun a w11 hA H hG => ?_
 refine list_at 6 ?_; refine q_alloc 6 3 24 [.int .i64 0, (.slice none 0 0)] [(9, .agg #[.int .i64 ((wholeR l).1.1.1), v5e]), (10, .agg #[v5a, v5b]), (11, .bool ((wholeR l).2))] hA H fun b12 a w13 H hA hG hge_b12 => ?_
 clear hge_b12
 refine list_at 7 ?_; refine q_alloc 7 4 29 [(.slice none 0 0), (.slice none 0 0)] [(3, pv b12), (9, .agg #[.int .i64 ((wholeR l).1.1.1), v5e]), (10, .agg #[v5a, v5b]), (11, .bool ((wholeR l).2))] hA H fun b14 a w15 H hA hG hge_b14 => ?_
 clear hge_b14
 refine list_at 8 ?_; refine q_store 8 24 (.tmp 3) (.tmp 9) 1 b12 (0) 24 [.int .i64 0, (.slice none 0 0)] [.int .i64 ((wholeR l).1.1.1), v5e] [.int .i64 ((wholeR l).1.1.1), v5e] (.agg #[.int .i64 ((wholeR l).1.1.1), v5e]) [(3, pv b12), (4, pv b14), (10, .agg #[v5a, v5b]), (11, .bool ((wholeR l).2))] hA H rfl rfl (Nat.le_of_ble_eq_true (by kernel_rfl)) rfl (fun v hv => by simp only [List.mem_cons, List.not_mem_nil, or_false] at hv; rcases hv with rfl | rfl; exact rfl; exact (rd_one (H.get 4 rfl))) fun a w16 H hA hG => ?_
 replace H : Fr _ _ _ [.box b14 29 [(.slice none 0 0), (.slice none 0 0)], .box b12 24 [.int .i64 ((wholeR l).1.1.1), v5e], .ro v5b ((wholeR l).1.2.2), .ro v5a ((wholeR l).1.2.1), .ro v5e ((wholeR l).1.1.2)] := H
 refine list_at 9 ?_; refine q_store 9 29 (.tmp 4) (.tmp 10) 0 b14 (0) 29 [(.slice none 0 0), (.slice none 0 0)] [v5a, v5b] [v5a, v5b] (.agg #[v5a, v5b]) [(3, pv b12), (4, pv b14), (11, .bool ((wholeR l).2))] hA H rfl rfl (Nat.le_of_ble_eq_true (by kernel_rfl)) rfl (fun v hv => by simp only [List.mem_cons, List.not_mem_nil, or_false] at hv; rcases hv with rfl | rfl; exact (rd_one (H.get 3 rfl)); exact (rd_one (H.get 2 rfl))) fun a w17 H hA hG => ?_
 replace H : Fr _ _ _ [.box b14 29 [v5a, v5b], .box b12 24 [.int .i64 ((wholeR l).1.1.1), v5e], .ro v5b ((wholeR l).1.2.2), .ro v5a ((wholeR l).1.2.1), .ro v5e ((wholeR l).1.1.2)] := H
 refine q_list 10 1 [] [(3, pv b12), (4, pv b14), (5, .bool ((wholeR l).2))] (TT ∧ True) hA H ⟨tv, tv⟩ fun a w18 hA H hG => ?_
 refine list_end ?_
 refine hK3 _ _ ?_
 refine go_seq fun K19 hK19 => ?_
 refine q_reg [(14, .agg #[.int .i64 ((wholeR l).1.1.1), v5e]), (15, .agg #[v5a, v5b]), (16, .bool (solidB ((wholeR l).1.1.1) ((wholeR l).1.1.2) ((wholeR l).1.2.1) ((wholeR l).1.2.2)))] [(2, .bool (((wholeR l).2) && (solidB ((wholeR l).1.1.1) ((wholeR l).1.1.2) ((wholeR l).1.2.1) ((wholeR l).1.2.2))))] (TT ∧ TT ∧ (((wholeR l).2) = true → (Try.prog.info? 24).isSome = true ∧ RowOk (On w18) b12 (0) (Try.prog.cellsOf 24) #[.int .i64 ((wholeR l).1.1.1), v5e]) ∧ (((wholeR l).2) = true → (Try.prog.info? 29).isSome = true ∧ RowOk (On w18) b14 (0) (Try.prog.cellsOf 29) #[v5a, v5b]) ∧ (((wholeR l).2) = true → Callable Try.prog 50 ∧ CallOk Try.prog (On w18) 50 [.agg #[.int .i64 ((wholeR l).1.1.1), v5e], .agg #[v5a, v5b]].toArray (.bool (solidB ((wholeR l).1.1.1) ((wholeR l).1.1.2) ((wholeR l).1.2.1) ((wholeR l).1.2.2)))) ∧ TT ∧ TT ∧ True) hA H ⟨tv, tv, fun _ => ⟨by kernel_rfl, by exact box_row H 1 rfl 0 2⟩, fun _ => ⟨by kernel_rfl, by exact box_row H 0 rfl 0 2⟩, fun hg0 => by replace hg0 := hg0; exact ⟨callable_of, callOk_of fun w hw => by exact solid_any ((wholeR l).1.1.1) v5e ((wholeR l).1.1.2) v5a v5b ((wholeR l).1.2.1) ((wholeR l).1.2.2) w (by omega) (((H.on hw).get 4 rfl)) (((H.on hw).get 3 rfl)) (((H.on hw).get 2 rfl))⟩, tv, tv, tv⟩ fun a w20 hA H hG => ?_
 refine hK19 _ _ ?_
 refine go_ret_ ?_
 refine ret_one 2 (.bool (((wholeR l).2) && (solidB ((wholeR l).1.1.1) ((wholeR l).1.1.2) ((wholeR l).1.2.1) ((wholeR l).1.2.2)))) hA ?_
 exact ans_b' rfl H.below
theorem will_any (vl : Value) (l : List (Int × Int × Int)) (k : Int) (w : World) (hL : Rd (· < w.heap.size) w vl l) (hs : l.length ≤ 100000) (hk : 0 ≤ k ∧ k ≤ 1000000) :
 Calls Try.prog 92 [vl, .int .i64 k].toArray w (Ans (.bool (decide (2 ≤ k) && decide (2 ≤ (l.length : Int) - k))) w) := by
 refine enter Try.f92 14 Try.func92 fun a hA => ?_
 replace hA := env_sub [(0, vl), (1, iv k)] hA
 have H := Fr.start (org w)
 refine go_seq fun K1 hK1 => ?_
 refine q_reg [] [(0, vl), (1, iv k)] (TT ∧ True) hA H ⟨tv, tv⟩ fun a w2 hA H hG => ?_
 refine hK1 _ _ ?_
 refine go_seq fun K3 hK3 => ?_
 refine q_reg [(9, iv (l.length : Int))] [(4, .bool ((decide ((2 : Int) ≤ k)) && (decide ((2 : Int) ≤ (l.length : Int) - k))))] (TT ∧ TT ∧ TT ∧ ((decide ((2 : Int) ≤ k)) = true → True) ∧ ((decide ((2 : Int) ≤ k)) = true → LenOk vl (l.length : Int)) ∧ ((decide ((2 : Int) ≤ k)) = true → True) ∧ ((decide ((2 : Int) ≤ k)) = true → InR .i64 ((l.length : Int) - k)) ∧ ((decide ((2 : Int) ≤ k)) = true → True) ∧ TT ∧ TT ∧ True) hA H ⟨tv, tv, tv, fun _ => tv, fun _ => by exact len_ok (H.arg hL), fun _ => tv, fun hg0 => by replace hg0 := of_decide_eq_true hg0; exact ⟨by omega, by omega⟩, fun _ => tv, tv, tv, tv⟩ fun a w4 hA H hG => ?_
 refine hK3 _ _ ?_
 refine go_ret_ ?_
 refine ret_one 4 (.bool ((decide ((2 : Int) ≤ k)) && (decide ((2 : Int) ≤ (l.length : Int) - k)))) hA ?_
 exact ans_b' rfl H.below
theorem pclasses_any (vl : Value) (l : List (Int × Int × Int)) (x y : Int) (o : Orig) (hL : Rd (· < o.w.heap.size) o.w vl l) (hs : l.length ≤ 100000) (hwf : WfL l) (hx : -9223372036854775808 ≤ x ∧ x ≤ 9223372036854775807) (hy : -9223372036854775808 ≤ y ∧ y ≤ 9223372036854775807) :
 Calls Try.prog 56 [vl, .int .i64 x, .int .i64 y].toArray o.w (Giv o (fun S v w' => Rd S w' v (pclassesE l x y))) := by
 have hvl := verts_len l
 refine enter Try.f56 34 Try.func56 fun a hA => ?_
 replace hA := env_sub [(0, vl), (1, iv x), (2, iv y)] hA
 have H := Fr.start o
 refine go_seq fun K1 hK1 => ?_
 refine q_reg [] [(0, vl), (1, iv x), (2, iv y)] (TT ∧ True) hA H ⟨tv, tv⟩ fun a w2 hA H hG => ?_
 refine hK1 _ _ ?_
 refine go_seq fun K3 hK3 => ?_
 refine region_list ?_
 refine q_list 0 1 [] [(0, vl), (1, iv x), (2, iv y), (8, vl)] (TT ∧ True) hA H ⟨tv, tv⟩ fun a w4 hA H hG => ?_
 refine list_at 1 ?_; refine q_call 1 9 61 #[.tmp 8] #[69] [vl] (fun S v_ w' => Rd S w' v_ (vertsL l)) [(0, vl), (1, iv x), (2, iv y)] hA H (by exact verts_any vl l H.at ((H.arg hL)) (by omega)) fun v5 a w6 S hR7 H hA hG => ?_
 replace H := H.ro hR7
 refine q_list 2 1 [] [(0, vl), (1, iv x), (2, iv y), (7, v5)] (TT ∧ True) hA H ⟨tv, tv⟩ fun a w9 hA H hG => ?_
 refine list_end ?_
 refine hK3 _ _ ?_
 refine go_seq fun K10 hK10 => ?_
 refine go_seq fun K11 hK11 => ?_
 refine q_reg [(16, .bool (hasB (vertsL l) x)), (22, .bool (hasB (vertsL l) y)), (27, .bool (rightK l))] [(0, vl), (1, iv x), (2, iv y), (29, .bool ((((decide (x = y)) || (!(hasB (vertsL l) x))) || (!(hasB (vertsL l) y))) || (!(rightK l))))] (TT ∧ TT ∧ TT ∧ TT ∧ ((decide (x = y)) = false → True) ∧ ((decide (x = y)) = false → True) ∧ ((decide (x = y)) = false → Callable Try.prog 39 ∧ CallOk Try.prog (On w9) 39 [v5, .int .i64 x].toArray (.bool (hasB (vertsL l) x))) ∧ ((decide (x = y)) = false → True) ∧ TT ∧ TT ∧ (((decide (x = y)) || (!(hasB (vertsL l) x))) = false → True) ∧ (((decide (x = y)) || (!(hasB (vertsL l) x))) = false → True) ∧ (((decide (x = y)) || (!(hasB (vertsL l) x))) = false → Callable Try.prog 39 ∧ CallOk Try.prog (On w9) 39 [v5, .int .i64 y].toArray (.bool (hasB (vertsL l) y))) ∧ (((decide (x = y)) || (!(hasB (vertsL l) x))) = false → True) ∧ TT ∧ TT ∧ ((((decide (x = y)) || (!(hasB (vertsL l) x))) || (!(hasB (vertsL l) y))) = false → True) ∧ ((((decide (x = y)) || (!(hasB (vertsL l) x))) || (!(hasB (vertsL l) y))) = false → Callable Try.prog 59 ∧ CallOk Try.prog (On w9) 59 [vl].toArray (.bool (rightK l))) ∧ ((((decide (x = y)) || (!(hasB (vertsL l) x))) || (!(hasB (vertsL l) y))) = false → True) ∧ TT ∧ True) hA H ⟨tv, tv, tv, tv, fun _ => tv, fun _ => tv, fun hg0 => by replace hg0 := of_decide_eq_false hg0; exact ⟨callable_of, callOk_of fun w hw => by exact has_any v5 (vertsL l) x w (((H.on hw).get 0 rfl)) (by omega)⟩, fun _ => tv, tv, tv, fun _ => tv, fun _ => tv, fun hg0 => by replace hg0 := (⟨of_decide_eq_false ((oF hg0).1), (nF ((oF hg0).2))⟩ : _ ∧ _); exact ⟨callable_of, callOk_of fun w hw => by exact has_any v5 (vertsL l) y w (((H.on hw).get 0 rfl)) (by omega)⟩, fun _ => tv, tv, tv, fun _ => tv, fun hg0 => by replace hg0 := (⟨(⟨of_decide_eq_false ((oF ((oF hg0).1)).1), (nF ((oF ((oF hg0).1)).2))⟩ : _ ∧ _), (nF ((oF hg0).2))⟩ : _ ∧ _); exact ⟨callable_of, callOk_of fun w hw => by exact pright_any vl l w (((H.on hw).arg hL)) (by omega) hwf⟩, fun _ => tv, tv, tv⟩ fun a w12 hA H hG => ?_
 refine hK11 _ _ ?_
 refine go_cond hA (.tmp 29) ((((decide (x = y)) || (!(hasB (vertsL l) x))) || (!(hasB (vertsL l) y))) || (!(rightK l))) (fun hb13 => ?_) (fun hb13 => ?_)
 · have hhb13 := (oT hb13).imp (fun h => (oT h).imp (fun h => (oT h).imp (fun h => of_decide_eq_true h) (fun h => (nT h))) (fun h => (nT h))) (fun h => (nT h))
   refine go_seq fun K14 hK14 => ?_
   refine q_reg [] [(6, (.slice none 0 0))] (TT ∧ True) hA H ⟨tv, tv⟩ fun a w15 hA H hG => ?_
   refine hK14 _ _ ?_
   refine go_ret_ ?_
   refine ret_one 6 (.slice none 0 0) hA ?_
   exact ⟨_, rfl, by rw [pclassesE_no hhb13]; exact rd_nil, H.below⟩
 have hhb13 := (⟨(⟨(⟨of_decide_eq_false ((oF ((oF ((oF hb13).1)).1)).1), (nF ((oF ((oF ((oF hb13).1)).1)).2))⟩ : _ ∧ _), (nF ((oF ((oF hb13).1)).2))⟩ : _ ∧ _), (nF ((oF hb13).2))⟩ : _ ∧ _)
 refine go_skip ?_
 refine hK10 _ _ ?_
 refine go_seq fun K16 hK16 => ?_
 refine region_list ?_
 refine q_list 0 3 [] [(30, vl), (31, iv x), (32, iv y)] (TT ∧ TT ∧ TT ∧ True) hA H ⟨tv, tv, tv, tv⟩ fun a w17 hA H hG => ?_
 refine list_at 3 ?_; refine q_call 3 33 86 #[.tmp 30, .tmp 31, .tmp 32] #[69, 3, 3] [vl, .int .i64 x, .int .i64 y] (fun S v_ w' => Rd S w' v_ ((classesL l x y))) [] hA H (by exact classes_any vl l x y H.at ((H.arg hL)) (by omega) (by omega) (by omega) (fun i h0 h1 => ⟨(hwf i h0 h1).1, (hwf i h0 h1).2.1⟩)) fun v18 a w19 S hR20 H hA hG => ?_
 replace H := H.ro hR20
 refine q_list 4 1 [] [(6, v18)] (TT ∧ True) hA H ⟨tv, tv⟩ fun a w22 hA H hG => ?_
 refine list_end ?_
 refine hK16 _ _ ?_
 refine go_ret_ ?_
 refine ret_one 6 v18 hA ?_
 exact ⟨_, rfl, by rw [pclassesE_ok hhb13]; exact (H.giveRo 0 rfl), H.below⟩
theorem Fr.pick {o : Orig} {w : World} {S : Stab} {rs rs' : List Res} (js : List Nat) (H : Fr o w S rs) (hjs : js.map (fun j => rs[j]?) = rs'.map some) (hn : js.Nodup) : Fr o w S rs' where
 below := H.below
 src := H.src
 inb := H.inb
 ok r hr := by
   obtain ⟨j, _, hj⟩ := List.mem_map.1 (show some r ∈ js.map (fun j => rs[j]?) by rw [hjs]; exact List.mem_map.2 ⟨r, hr, rfl⟩)
   exact H.ok r (List.mem_of_getElem? hj)
 own r hr := by
   obtain ⟨j, _, hj⟩ := List.mem_map.1 (show some r ∈ js.map (fun j => rs[j]?) by rw [hjs]; exact List.mem_map.2 ⟨r, hr, rfl⟩)
   exact H.own r (List.mem_of_getElem? hj)
 nodup := by
   rw [List.Nodup, List.pairwise_filterMap, List.pairwise_iff_getElem]
   intro i k hi hk hik b hb c hc e
   have hl : js.length = rs'.length := by have := congrArg List.length hjs; simpa using this
   have h1 : rs[js[i]'(by omega)]? = some rs'[i] := by
     have h1 := congrArg (fun z : List (Option Res) => z[i]?) hjs
     simp only [List.getElem?_map, List.getElem?_eq_getElem (show i < js.length by omega), List.getElem?_eq_getElem hi, Option.map_some] at h1
     exact Option.some.inj h1
   have h2 : rs[js[k]'(by omega)]? = some rs'[k] := by
     have h1 := congrArg (fun z : List (Option Res) => z[k]?) hjs
     simp only [List.getElem?_map, List.getElem?_eq_getElem (show k < js.length by omega), List.getElem?_eq_getElem hk, Option.map_some] at h1
     exact Option.some.inj h1
   have hne : js[i]'(by omega) ≠ js[k]'(by omega) := by
     rw [List.Nodup, List.pairwise_iff_getElem] at hn
     exact hn i k (by omega) (by omega) hik
   exact H.apart _ _ hne h1 h2 hb (by rw [hc, e])
def idxP {α : Type} (p : α → Bool) (l : List α) : Int := (l.findIdx? p).elim (-1) (fun i => (i : Int))
theorem idxP_none {α : Type} {p : α → Bool} {l : List α} (d : α) (h : ∀ j : Nat, j < l.length → p (l.getD j d) = false) : idxP p l = -1 := by
 have : l.findIdx? p = none := List.findIdx?_eq_none_iff.2 fun x hx => by
   obtain ⟨i, hi, rfl⟩ := List.getElem_of_mem hx
   have := h i hi
   rwa [List.getD_eq_getElem?_getD, List.getElem?_eq_getElem hi, Option.getD_some] at this
 rw [idxP, this]; rfl
theorem idxP_some {α : Type} {p : α → Bool} {l : List α} (d : α) {i : Nat} (hi : i < l.length) (hp : p (l.getD i d) = true) (h : ∀ j : Nat, j < i → p (l.getD j d) = false) : idxP p l = (i : Int) := by
 have : l.findIdx? p = some i := List.findIdx?_eq_some_iff_getElem.2 ⟨hi, by rwa [List.getD_eq_getElem?_getD, List.getElem?_eq_getElem hi, Option.getD_some] at hp, fun j hj => by
   have := h j hj
   rw [List.getD_eq_getElem?_getD, List.getElem?_eq_getElem (by omega), Option.getD_some] at this
   simp [this]⟩
 rw [idxP, this]; rfl
theorem idxP_bd {α : Type} (p : α → Bool) (l : List α) : idxP p l = -1 ∨ (0 ≤ idxP p l ∧ idxP p l < (l.length : Int)) := by
 unfold idxP
 cases h : l.findIdx? p with
 | none => exact .inl rfl
 | some i => obtain ⟨hi, _⟩ := List.findIdx?_eq_some_iff_getElem.1 h; exact .inr ⟨by show (0 : Int) ≤ (i : Int); omega, by show (i : Int) < _; omega⟩
theorem idxP_neg {α : Type} {p : α → Bool} {l : List α} (h : idxP p l = -1) : ∀ x ∈ l, p x = false := by
 unfold idxP at h
 cases h2 : l.findIdx? p with
 | none => exact List.findIdx?_eq_none_iff.1 h2
 | some i => rw [h2] at h; change (i : Int) = -1 at h; omega
theorem idxP_pos {α : Type} {p : α → Bool} {l : List α} (h : 0 ≤ idxP p l) : ∃ i : Nat, idxP p l = (i : Int) ∧ ∃ hi : i < l.length, p l[i] = true ∧ ∀ j (hj : j < i), p (l[j]'(by omega)) = false := by
 unfold idxP at h ⊢
 cases h2 : l.findIdx? p with
 | none => rw [h2] at h; change (0 : Int) ≤ -1 at h; omega
 | some i =>
   obtain ⟨hi, h3, h4⟩ := List.findIdx?_eq_some_iff_getElem.1 h2
   exact ⟨i, rfl, hi, h3, fun j hj => by have := h4 j hj; simpa using this⟩
theorem idxP_any {α : Type} (p : α → Bool) (l : List α) : decide (0 ≤ idxP p l) = l.any p := by
 rw [Bool.eq_iff_iff, decide_eq_true_eq, List.any_eq_true]
 refine ⟨fun h => ?_, fun ⟨x, hx, hp⟩ => ?_⟩
 · obtain ⟨i, _, hi, h1, _⟩ := idxP_pos h; exact ⟨l[i], List.getElem_mem hi, h1⟩
 rcases idxP_bd p l with h | h
 · rw [idxP_neg h x hx] at hp; cases hp
 exact h.1
structure DelI (p : Int → Bool) (l : List Int) (j i : Int) (c : List Int) : Prop where
 i0 : 0 ≤ i
 ij : i < j
 jn : j ≤ (l.length : Int)
 len : c.length = l.length
 front : c.take i.toNat = (l.take j.toNat).filter (fun x => !p x)
 back : ∀ q : Nat, j ≤ (q : Int) → c.getD q 0 = l.getD q 0
theorem del_start {p : Int → Bool} {l : List Int} (h : 0 ≤ idxP p l) : DelI p l (idxP p l + 1) (idxP p l) l := by
 obtain ⟨i, hi, hl, h1, h2⟩ := idxP_pos h
 refine ⟨h, by omega, by omega, rfl, ?_, fun _ _ => rfl⟩
 rw [hi, show ((i : Int) + 1).toNat = i + 1 by omega, Int.toNat_natCast, List.take_add_one, List.filter_append, List.getElem?_eq_getElem hl]
 rw [List.filter_eq_self.2 (fun x hx => by
   obtain ⟨q, hq, rfl⟩ := List.getElem_of_mem hx
   rw [List.length_take] at hq
   rw [List.getElem_take, h2 q (by omega)]; rfl)]
 simp [h1]
theorem del_skip {p : Int → Bool} {l : List Int} {j i : Int} {c : List Int} (h : DelI p l j i c) (hj : j < (l.length : Int)) (hp : p (c.getD j.toNat 0) = true) : DelI p l (j + 1) i c := by
 have hb := h.back j.toNat (by have := h.i0; have := h.ij; omega)
 have := h.i0; have := h.ij
 refine ⟨h.i0, by omega, by omega, h.len, ?_, fun q hq => h.back q (by omega)⟩
 rw [h.front, show (j + 1).toNat = j.toNat + 1 by omega, List.take_add_one, List.filter_append, List.getElem?_eq_getElem (by omega)]
 rw [hb, List.getD_eq_getElem?_getD, List.getElem?_eq_getElem (by omega), Option.getD_some] at hp
 simp [hp]
theorem del_keep {p : Int → Bool} {l : List Int} {j i : Int} {c : List Int} (h : DelI p l j i c) (hj : j < (l.length : Int)) (hp : p (c.getD j.toNat 0) = false) : DelI p l (j + 1) (i + 1) (c.set i.toNat (c.getD j.toNat 0)) := by
 have hb := h.back j.toNat (by have := h.i0; have := h.ij; omega)
 have h0 := h.i0; have h1 := h.ij; have h2 := h.len
 refine ⟨by omega, by omega, by omega, by rw [List.length_set]; exact h.len, ?_, fun q hq => ?_⟩
 · rw [show (j + 1).toNat = j.toNat + 1 by omega, show (i + 1).toNat = i.toNat + 1 by omega, List.take_add_one, List.take_add_one, List.filter_append, ← h.front, List.take_set, List.getElem?_set_self (by omega), List.getElem?_eq_getElem (show j.toNat < l.length by omega)]
   rw [hb, List.getD_eq_getElem?_getD, List.getElem?_eq_getElem (by omega), Option.getD_some] at hp ⊢
   rw [List.set_eq_of_length_le (by rw [List.length_take]; omega)]
   simp [hp]
 rw [← h.back q (by omega), List.getD_eq_getElem?_getD, List.getD_eq_getElem?_getD, List.getElem?_set_ne (by omega), ← List.getD_eq_getElem?_getD]
theorem del_end {p : Int → Bool} {l : List Int} {j i : Int} {c c' : List Int} (h : DelI p l j i c) (hj : ¬ j < (l.length : Int)) (hc : c' = c.take i.toNat ++ List.replicate (c.length - i.toNat) 0) : c'.take i.toNat = l.filter (fun x => !p x) := by
 have h1 := h.jn
 have h2 := h.front
 have h0 := h.i0; have h3 := h.ij; have h4 := h.len
 rw [List.take_of_length_le (l := l) (by omega)] at h2
 rw [hc, ← h2, List.take_left' (by rw [List.length_take]; omega)]
theorem del_none {p : Int → Bool} {l : List Int} (h : idxP p l = -1) : l = l.filter (fun x => !p x) := (List.filter_eq_self.2 fun x hx => by rw [idxP_neg h x hx]; rfl).symm
def TailOf (v : Value) (k n : Nat) (u : Value) : Prop := ∃ c, u = .slice (some ⟨hdB v, k, none⟩) (n - k) c
theorem Fr.tailOf {P : Program} {w0 : Orig} {w : World} {S : Stab} {rs : List Res} (h : Fr w0 w S rs) (j : Nat) {e t : TypeId} {v : Value} {l : List Int} (hj : rs[j]? = some (.row e v l)) (k : Int) (hk0 : 0 ≤ k) (hk : k < (l.length : Int))
   (ht : P.underlying t = some (.slice (P.elem t))) (hi : (P.info? (P.elem t)).map (·.size) = some 1) :
   ∃ u, (∀ (q : IntKind) (w' : World), (Instr.sliceAt t v (some (.int q k)) none none).run P w' = .ok u w') ∧ TailOf v k.toNat l.length u := by
 obtain ⟨xs, h1, h2⟩ := h.ok _ (List.mem_of_getElem? hj)
 obtain ⟨inf, hinf, hs⟩ := Option.map_eq_some_iff.1 hi
 rcases h1.2 with ⟨rfl, hn⟩ | ⟨g, cap, cur, rfl, hbg, hg, hnc, hcm, hcs, htake⟩
 · omega
 refine ⟨.slice (some ⟨g, k.toNat, none⟩) (l.length - k.toNat) (cap - k.toNat), fun q w' => ?_, cap - k.toNat, rfl⟩
 rw [run_sliceAt_slice w' t _ _ _ _ ht, run_slice_l w' t (some ⟨g, 0, none⟩) l.length cap ht q k (by omega) (by omega), run_sizeOf w' hinf]
 have hne : ¬ cap = k.toNat := by omega
 simp only [Result.andThen, sliced, hne, if_false, Option.map_some, show P.cellsOf (P.elem t) = 1 by simp [Program.cellsOf, hinf, hs], Nat.mul_one]
 have hadd : (⟨g, 0, none⟩ : Addr).add k.toNat = ⟨g, k.toNat, none⟩ := by unfold Addr.add; split <;> simp_all
 rw [hadd]
section
variable {P : Program} {Q : Exit → Act → World → Prop} {a : Act} {w : World}
theorem q_clearRow {ops : Array Oper} {N : Act → World → Prop} {n : Nat} {env : Env} {w0 : Orig} {S : Stab} {rs : List Res} (i t : Nat) (x : Operand) (j : Nat) (e e0 : TypeId) (v u : Value) (l : List Int) (kk : Nat) (keep : List (Nat × Value)) (ha : EnvOk n a env) (H : Fr w0 w S rs)
   (hj : rs[j]? = some (.row e v l)) (hu : TailOf v kk l.length u) (hkk : kk < l.length) (ht : P.underlying t = some (.slice e0)) (hz : ∀ w, (zeroValue e0).run P w = .ok (.int .i64 0) w)
   (k : ∀ a' w', Fr w0 w' S (rs.set j (.row e v (l.take kk ++ List.replicate (l.length - kk) (0 : Int)))) → EnvOk n a' (keepEnv keep) → w.grownBy w' v.ownBlock → N a' w')
   (h : opAt ops i = some (.call { callee := .builtin .clear, args := #[x], argTypes := #[t] }, none, none) := by kernel_rfl) (hx : getOp env [] x = some u := by kernel_rfl)
   (hk : (keep.map fun x => look env x.1) = (keep.map fun x => some ⟨x.1, [], x.2⟩) := by kernel_rfl) : wpOp P ops Q i N a w := by
 refine op_at h fun op hop hdst => ?_
 obtain ⟨xs, hown, hR⟩ := H.ok _ (List.mem_of_getElem? hj)
 obtain ⟨uc, rfl⟩ := hu
 have hxs := row_ints' hR
 rcases hown.2 with ⟨_, h0⟩ | ⟨g, cap, cur, rfl, _, hg, hnc, hcm, hcs, htake⟩
 · omega
 have hsz1 : Data.size Int = 1 := rfl
 rw [hsz1, Nat.mul_one] at htake hcs
 have hx1 : xs.length = l.length := by have := hown.1; rw [hsz1, Nat.mul_one] at this; exact this
 have hcur : l.length ≤ cur.toList.length := by rw [← hx1, ← htake, List.length_take]; omega
 have hzs : (Builtin.zeroCells (Value.int .i64 0).cells (l.length - kk)).toList = List.replicate (l.length - kk) (Value.int .i64 0) := by
   have hzc : (Value.int .i64 0).cells = #[.int .i64 0] := rfl
   rw [hzc]
   simp [Builtin.zeroCells]
   apply List.ext_getElem
   · simp
   intro i h1 h2
   simp [Nat.mod_one]
 have hst := run_storeCells_at (P := P) g kk e (List.replicate (l.length - kk) (Value.int .i64 0)) 0 cur w hg (by rw [List.length_replicate]; rw [Array.length_toList] at hcur; omega) (by intro v hv; rw [List.eq_of_mem_replicate hv]; rfl)
 rw [Nat.add_zero, List.length_replicate] at hst
 have hrun : (Builtin.clear_ #[t] op.type #[.slice (some ⟨g, kk, none⟩) (l.length - kk) uc]).run P w = .ok (.tuple #[]) (w.setRow g (cur.toList.take kk ++ List.replicate (l.length - kk) (Value.int .i64 0) ++ cur.toList.drop (kk + (l.length - kk))).toArray) := by
   obtain ⟨m, hm⟩ : ∃ m, l.length - kk = m + 1 := ⟨l.length - kk - 1, by omega⟩
   rw [hm] at hzs hst ⊢
   simp [Builtin.clear_, run_underlying ht, hz, hzs, hst]
 have hx' : getOp env [] x = some (.slice (some ⟨g, kk, none⟩) (l.length - kk) uc) := hx
 have e2 : (execOp a.eval op).run P w = .ok (.value (.tuple #[])) (w.setRow g (cur.toList.take kk ++ List.replicate (l.length - kk) (Value.int .i64 0) ++ cur.toList.drop (kk + (l.length - kk))).toArray) := by
   simp only [execOp, hop, resolve, invoke, builtin, Sem.run_bind, Sem.run_pure, Result.andThen_ok, List.map_toArray, List.map_cons, List.map_nil, getOp_ok ha (fun l hl => by simp at hl) _ _ hx', hrun]
 unfold Oper.wp
 rw [e2, Oper.upon_value, hdst]
 have hG : w.grownBy (w.setRow g (cur.toList.take kk ++ List.replicate (l.length - kk) (Value.int .i64 0) ++ cur.toList.drop (kk + (l.length - kk))).toArray) (some g) := by
   refine ⟨rfl, rfl, rfl, by simp [World.setRow], fun k hk hne => ?_⟩
   simp only [World.setRow, Array.getElem?_modify]
   rw [if_neg (fun e => hne (by rw [← e]))]
 have hL : (l.take kk ++ List.replicate (l.length - kk) (0 : Int)).length = l.length := by rw [List.length_append, List.length_take, List.length_replicate]; omega
 refine k _ _ (H.set j hj _ ⟨(l.take kk ++ List.replicate (l.length - kk) (0 : Int)).map (Value.int .i64), ⟨?_, .inr ⟨g, cap, _, by rw [hL], Nat.zero_le _, setRow_heap w g cur _ e _ hg, by rw [hL]; exact hnc, hcm, ?_, ?_⟩⟩, ints_row' _⟩ hG (fun b' hb' => .inl hb')) (keep_ok keep ha (looks_of hk)) hG
 · rw [List.length_map, hL, hsz1, Nat.mul_one]
 · rw [hsz1, Nat.mul_one]
   simp only [List.size_toArray, List.length_append, List.length_take, List.length_drop, List.length_replicate, Array.length_toList] at hcur ⊢; omega
 rw [hL, hsz1, Nat.mul_one]
 rw [hxs] at htake
 have h9 : (l.map (Value.int .i64)).take kk = cur.toList.take kk := by rw [← htake, List.take_take, Nat.min_eq_left (by omega)]
 rw [List.map_append, List.map_replicate, List.map_take, h9]
 show List.take l.length (cur.toList.take kk ++ List.replicate (l.length - kk) (Value.int .i64 0) ++ cur.toList.drop (kk + (l.length - kk))) = _
 exact List.take_left' (by rw [List.length_append, List.length_take, List.length_replicate]; omega)
end
theorem getD_wf {l : List Int} (h : ∀ x ∈ l, wfI x) {i : Nat} (hi : i < l.length) : wfI (l.getD i 0) := by
 rw [List.getD_eq_getElem?_getD, List.getElem?_eq_getElem hi]; exact h _ (List.getElem_mem hi)
def othE (E : List (Int × Int)) (u : Int) (L : List Int) : List Int := L.flatMap fun e => if u = (E.getD e.toNat (0, 0)).1 then [(E.getD e.toNat (0, 0)).2] else if u = (E.getD e.toNat (0, 0)).2 then [(E.getD e.toNat (0, 0)).1] else []
def leftE (E : List (Int × Int)) (u : Int) (L : List Int) : List Int := L.filter fun e => !decide (u = (E.getD e.toNat (0, 0)).1) && !decide (u = (E.getD e.toNat (0, 0)).2)
def butV (u : Int) (V : List Int) : List Int := V.filter fun v => !decide (v = u)
def besideB (n : Int) (E : List (Int × Int)) (V L : List Int) (u v : Int) : Bool := decide (v < u) || (decide (((othE E u L).count v : Int) < 2) && !hasB (cutsE n E (butV u V) (leftE E u L)) v)
def besideE (n : Int) (E : List (Int × Int)) (V L : List Int) (u : Int) : List Int := (butV u V).filter fun v => !besideB n E V L u v
theorem take_snocI {l : List Int} {i : Int} (h0 : 0 ≤ i) (h1 : i < (l.length : Int)) : l.take (i + 1).toNat = l.take i.toNat ++ [l.getD i.toNat 0] := take_snocD h0 h1
theorem butV_snoc {V : List Int} {u i : Int} (h0 : 0 ≤ i) (h1 : i < (V.length : Int)) : butV u (V.take (i + 1).toNat) = butV u (V.take i.toNat) ++ (if V.getD i.toNat 0 = u then [] else [V.getD i.toNat 0]) := by
 rw [take_snocI h0 h1]; unfold butV; rw [List.filter_append]; congr 1
 by_cases h : V.getD i.toNat 0 = u
 · rw [if_pos h, List.filter_cons, if_neg (by simp only [Bool.not_eq_true', decide_eq_false_iff_not]; exact fun q => q h)]; rfl
 rw [if_neg h, List.filter_cons, if_pos (by simp only [Bool.not_eq_true', decide_eq_false_iff_not]; exact h)]; rfl
theorem othE_snoc {E : List (Int × Int)} {L : List Int} {u i : Int} (h0 : 0 ≤ i) (h1 : i < (L.length : Int)) : othE E u (L.take (i + 1).toNat) = othE E u (L.take i.toNat) ++ (if u = (E.getD (L.getD i.toNat 0).toNat (0, 0)).1 then [(E.getD (L.getD i.toNat 0).toNat (0, 0)).2] else if u = (E.getD (L.getD i.toNat 0).toNat (0, 0)).2 then [(E.getD (L.getD i.toNat 0).toNat (0, 0)).1] else []) := by
 rw [take_snocI h0 h1]; unfold othE; rw [List.flatMap_append, List.flatMap_cons, List.flatMap_nil, List.append_nil]
theorem leftE_snoc {E : List (Int × Int)} {L : List Int} {u i : Int} (h0 : 0 ≤ i) (h1 : i < (L.length : Int)) : leftE E u (L.take (i + 1).toNat) = leftE E u (L.take i.toNat) ++ (if u = (E.getD (L.getD i.toNat 0).toNat (0, 0)).1 then [] else if u = (E.getD (L.getD i.toNat 0).toNat (0, 0)).2 then [] else [L.getD i.toNat 0]) := by
 rw [take_snocI h0 h1]; unfold leftE; rw [List.filter_append]; congr 1
 by_cases h : u = (E.getD (L.getD i.toNat 0).toNat (0, 0)).1
 · rw [if_pos h, List.filter_cons, if_neg (by simp only [Bool.and_eq_true, Bool.not_eq_true', decide_eq_false_iff_not]; exact fun q => q.1 h)]; rfl
 rw [if_neg h]
 by_cases h2 : u = (E.getD (L.getD i.toNat 0).toNat (0, 0)).2
 · rw [if_pos h2, List.filter_cons, if_neg (by simp only [Bool.and_eq_true, Bool.not_eq_true', decide_eq_false_iff_not]; exact fun q => q.2 h2)]; rfl
 rw [if_neg h2, List.filter_cons, if_pos (by simp only [Bool.and_eq_true, Bool.not_eq_true', decide_eq_false_iff_not]; exact ⟨h, h2⟩)]; rfl
theorem othE_len (E : List (Int × Int)) (u : Int) (L : List Int) : (othE E u L).length ≤ L.length := by
 unfold othE
 induction L with
 | nil => simp
 | cons e L ih => rw [List.flatMap_cons, List.length_append, List.length_cons]; split <;> (try split) <;> simp only [List.length_cons, List.length_nil] <;> omega
theorem oth_bd {m : List (Int × Int)} {E : List (Int × Int)} {u i : Int} {L : List Int} (h0 : 0 ≤ i) (hm : ∀ v, lastAt m v = cntO (othE E u (L.take i.toNat)) v) (x : Int) : 0 ≤ (lastAt m x).getD 0 ∧ (lastAt m x).getD 0 ≤ i := by
 have h1 := cnt_bd hm x
 have h2 := othE_len E u (L.take i.toNat)
 rw [List.length_take] at h2
 omega
theorem beside_ok {n u x : Int} {E : List (Int × Int)} {V L : List Int} {m : List (Int × Int)} (hm : ∀ v, lastAt m v = cntO (othE E u L) v) : (decide (x < u) || (decide ((lastAt m x).getD 0 < 2) && !hasB (cutsE n E (butV u V) (leftE E u L)) x)) = besideB n E V L u x := by
 rw [hm, cntO_get]; rfl
theorem butV_len (u : Int) (V : List Int) : (butV u V).length ≤ V.length := List.length_filter_le _ _
theorem cutsE_len (n : Int) (E : List (Int × Int)) (V L : List Int) : (cutsE n E V L).length ≤ V.length := by
 unfold cutsE; split
 · simp
 exact List.length_filter_le _ _
end Go.Proofs.Ytahonnlgkmimlaa
