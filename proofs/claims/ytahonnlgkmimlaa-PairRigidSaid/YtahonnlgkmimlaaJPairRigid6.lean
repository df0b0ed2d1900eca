/-
 Texts joined by program: WalkP6, WalkP7, WalkB8, WalkP8, PairD, WalkP9, WalkP10, PairE, WalkP11, WalkP12, PairF, PairG, TabC, WalkQ1, PairH, WalkQ2, WalkQ3, PairI, WalkB10, WalkB11, WalkB12, WalkQ4, WalkQ5, WalkQ6, WalkQ7, WalkQ8, PairJ, WalkQ9, WalkQ10, PairK, PairL, PairM, PairN, PairO, PairP, PairQ.
-/
import Derived.Test.YtahonnlgkmimlaaProg
import Derived.Laws.StructEq
import Derived.Tactics
import Derived.Test.YtahonnlgkmimlaaJPairRigid5
set_option linter.unusedSimpArgs false
set_option linter.unusedVariables false
set_option maxRecDepth 100000
set_option maxHeartbeats 8000000
namespace Go.Proofs.Ytahonnlgkmimlaa
open Go.RowKit
theorem idxrow_any (f : Nat) (cs : List Value) (p : Int → Bool) (v : Value) (l : List Int) (o : Orig) (S : Stab) (tl : List Res) (w : World) (hH : Fr o w S (.row 3 v l :: tl)) (hl : l.length ≤ 1000000) (hwf : ∀ x ∈ l, wfI x) (hf : Callable Try.prog f) (hp : ∀ (x : Int) (w' : World) (S' : Stab) (l' : List Int), wfI x → Fr o w' S' (.row 3 v l' :: tl) → Calls Try.prog f ([Value.int .i64 x] ++ cs).toArray w' (fun e w2 => ∃ q, e = .returned q ∧ (q = .bool (p x) ∧ ∃ S2, Fr o w2 S2 (.row 3 v l' :: tl)))) :
 Calls Try.prog 137 [v, (.func (.func f) #[] cs.toArray)].toArray w (fun e w' => ∃ q, e = .returned q ∧ (q = .int .i64 (idxP p l) ∧ ∃ S', Fr o w' S' (.row 3 v l :: tl))) := by
 refine enter Try.f137 19 Try.func137 fun a hA => ?_
 replace hA := env_sub [(0, v), (1, (.func (.func f) #[] cs.toArray))] hA
 have H := hH
 refine go_seq fun K1 hK1 => ?_
 refine q_reg [] [(0, v), (1, (.func (.func f) #[] cs.toArray))] (TT ∧ True) hA H ⟨tv, tv⟩ fun a w2 hA H hG => ?_
 refine hK1 _ _ ?_
 refine go_seq fun K3 hK3 => ?_
 refine go_seq fun K4 hK4 => ?_
 refine q_reg [(7, iv (l.length : Int))] [(0, v), (1, (.func (.func f) #[] cs.toArray)), (7, iv (l.length : Int)), (8, iv 0)] (TT ∧ (LenOk v (l.length : Int)) ∧ TT ∧ True) hA H ⟨tv, by exact len_ok (H.out 0 rfl), tv, tv⟩ fun a w5 hA H hG => ?_
 refine hK4 _ _ ?_
 refine go_block 0 ?_
 refine go_loop_ (Int) (fun x_ a W => (fun (i : Int) => EnvOk 19 a (keepEnv [(0, v), (1, (.func (.func f) #[] cs.toArray)), (7, iv (l.length : Int)), (8, iv i)]) ∧ (∃ S, Fr o W S (.row 3 v l :: tl)) ∧ 0 ≤ i ∧ i ≤ (l.length : Int) ∧ ∀ j : Nat, (j : Int) < i → p (l.getD j 0) = false) x_) (fun x_ => (fun (i : Int) => ((l.length : Int) - i).toNat) x_) (0) ?_ (fun i a w7 hI => ?_)
 · (try dsimp only); exact ⟨env_sub _ hA, ⟨_, H⟩, by omega, by omega, fun j hj => by omega⟩
 obtain ⟨hA, ⟨S, H⟩, h0, h0b, hi⟩ := hI
 try dsimp only at h0 h0b hi
 refine go_seq fun K8 hK8 => ?_
 refine q_reg [] [(0, v), (1, (.func (.func f) #[] cs.toArray)), (7, iv (l.length : Int)), (8, iv i), (9, .bool (decide (i < (l.length : Int))))] (TT ∧ True) hA H ⟨tv, tv⟩ fun a w9 hA H hG => ?_
 refine hK8 _ _ ?_
 refine go_seq fun K10 hK10 => ?_
 refine go_cond hA (.tmp 9) (decide (i < (l.length : Int))) (fun hb11 => ?_) (fun hb11 => ?_)
 · have hhb11 := of_decide_eq_true hb11
   refine go_skip ?_
   refine hK10 _ _ ?_
   refine go_seq fun K12 hK12 => ?_
   refine go_block 1 ?_
   refine go_seq fun K13 hK13 => ?_
   refine q_reg [] [(0, v), (1, (.func (.func f) #[] cs.toArray)), (5, iv i), (7, iv (l.length : Int)), (8, iv i)] (TT ∧ TT ∧ True) hA H ⟨tv, tv, tv⟩ fun a w14 hA H hG => ?_
   refine hK13 _ _ ?_
   refine go_seq fun K15 hK15 => ?_
   refine region_list ?_
   refine q_list 0 5 [(15, iv (l.getD i.toNat 0))] [(0, v), (1, (.func (.func f) #[] cs.toArray)), (5, iv i), (7, iv (l.length : Int)), (8, iv i), (11, (.func (.func f) #[] cs.toArray)), (15, iv (l.getD i.toNat 0))] (TT ∧ TT ∧ TT ∧ ((Try.prog.info? 3).isSome = true ∧ IdxOk v i) ∧ (CellOk (On w14) (hdB v) (hdO v + i.toNat * 1) (.int .i64 (l.getD i.toNat 0))) ∧ True) hA H ⟨tv, tv, tv, ⟨by kernel_rfl, by exact idx_ok (H.out 0 rfl) (by omega) (by omega)⟩, by exact cell_flat (i := i) (H.out 0 rfl) (by omega) (by omega) 0 0, tv⟩ fun a w16 hA H hG => ?_
   refine list_at 5 ?_; refine q_anyC 5 16 (.tmp 11) f #[.tmp 15] #[3] [.int .i64 (l.getD i.toNat 0)] [] cs (fun u_ w_ => u_ = .bool (p (l.getD i.toNat 0)) ∧ ∃ S_, Fr o w_ S_ (.row 3 v l :: tl)) [(0, v), (1, (.func (.func f) #[] cs.toArray)), (5, iv i), (7, iv (l.length : Int)), (8, iv i)] hA hf (by exact hp (l.getD i.toNat 0) _ _ _ (getD_wf hwf (by omega)) H) fun v17 a w18 hR19 hA => ?_
   obtain ⟨rfl, S, H⟩ := hR19
   refine list_end ?_
   refine hK15 _ _ ?_
   refine go_cond hA (.tmp 16) (p (l.getD i.toNat 0)) (fun hb20 => ?_) (fun hb20 => ?_)
   · have hhb20 := hb20
     refine go_seq fun K21 hK21 => ?_
     refine q_reg [] [(4, iv i)] (TT ∧ TT ∧ True) hA H ⟨tv, tv, tv⟩ fun a w22 hA H hG => ?_
     refine hK21 _ _ ?_
     refine go_ret_ ?_
     refine ret_one (P := Try.prog) (fn := Try.f137) (R := (fun e w' => ∃ q, e = .returned q ∧ (q = .int .i64 (idxP p l) ∧ ∃ S', Fr o w' S' (.row 3 v l :: tl)))) 4 (.int .i64 i) hA ?_
     exact ⟨_, rfl, by rw [idxP_some 0 (i := i.toNat) (by omega) hhb20 (fun j hj => hi j (by omega)), Int.toNat_of_nonneg h0], _, H⟩
   have hhb20 := hb20
   refine go_skip ?_
   refine hK12 _ _ ?_
   refine q_reg [] [(0, v), (1, (.func (.func f) #[] cs.toArray)), (7, iv (l.length : Int)), (8, iv (i + 1))] ((InR .i64 (i + 1)) ∧ TT ∧ True) hA H ⟨⟨by omega, by omega⟩, tv, tv⟩ fun a w23 hA H hG => ?_
   refine ⟨(i + 1), ⟨env_sub _ hA, ⟨_, H⟩, ?_⟩, ?_⟩
   · (try dsimp only); exact ⟨by omega, by omega, fun j hj => if q : (j : Int) = i then (by rw [show j = i.toNat by omega]; exact hhb20) else hi j (by omega)⟩
   (try dsimp only); omega
 have hhb11 := of_decide_eq_false hb11
 refine go_exit 0 ?_
 refine hK3 _ _ ?_
 refine go_seq fun K24 hK24 => ?_
 refine q_reg [] [(4, iv (-1))] (TT ∧ True) hA H ⟨tv, tv⟩ fun a w25 hA H hG => ?_
 refine hK24 _ _ ?_
 refine go_ret_ ?_
 refine ret_one (P := Try.prog) (fn := Try.f137) (R := (fun e w' => ∃ q, e = .returned q ∧ (q = .int .i64 (idxP p l) ∧ ∃ S', Fr o w' S' (.row 3 v l :: tl)))) 4 (.int .i64 (-1)) hA ?_
 exact ⟨_, rfl, by rw [idxP_none 0 (fun j hj => hi j (by omega))], _, H⟩
theorem bclos_any (b5 b8 pb b13 : Nat) (u : Int) (m : List (Int × Int)) (vc : Value) (cl : List Int) (x : Int) (o : Orig) (S : Stab) (tl : List Res) (w : World) (hH : Fr o w S (.box b5 3 [.int .i64 u] :: .box b8 130 [.map (some pb)] :: mapN Try.prog 3 pb m :: .box b13 27 [vc] :: .ro vc cl :: tl)) (hx : wfI x) (hc : cl.length ≤ 1000000) :
 Calls Try.prog 114 [.int .i64 x, .pointer (some ⟨b5, 0, none⟩), .pointer (some ⟨b8, 0, none⟩), .pointer (some ⟨b13, 0, none⟩)].toArray w (fun e w' => ∃ q, e = .returned q ∧ (q = .bool (decide (x < u) || (decide ((lastAt m x).getD 0 < 2) && !hasB cl x)) ∧ ∃ S', Fr o w' S' (.box b5 3 [.int .i64 u] :: .box b8 130 [.map (some pb)] :: mapN Try.prog 3 pb m :: .box b13 27 [vc] :: .ro vc cl :: tl))) := by
 unfold wfI at hx
 refine enter Try.f114 21 Try.func114 fun a hA => ?_
 replace hA := env_sub [(0, iv x), (1, pv b5), (2, pv b8), (3, pv b13)] hA
 have H := hH
 refine go_seq fun K1 hK1 => ?_
 refine q_reg [] [(0, iv x), (1, pv b5), (2, pv b8), (3, pv b13)] (TT ∧ True) hA H ⟨tv, tv⟩ fun a w2 hA H hG => ?_
 refine hK1 _ _ ?_
 refine go_seq fun K3 hK3 => ?_
 refine q_reg [(7, iv u), (10, (.map (some pb))), (12, iv ((lastAt m x).getD 0)), (15, vc), (17, .bool (hasB cl x))] [(5, .bool ((decide (x < u)) || ((decide ((lastAt m x).getD 0 < 2)) && (!(hasB cl x)))))] (TT ∧ (CellOk (On w2) b5 (0) (.int .i64 u)) ∧ TT ∧ TT ∧ ((decide (x < u)) = false → CellOk (On w2) b8 (0) ((.map (some pb)))) ∧ ((decide (x < u)) = false → True) ∧ ((decide (x < u)) = false → ∀ w', On w2 w' → (Instr.lookup 130 (.map (some pb)) (.int .i64 x) false).run Try.prog w' = .ok (.int .i64 ((lastAt m x).getD 0)) w') ∧ ((decide (x < u)) = false → True) ∧ ((decide (x < u)) = false → True) ∧ ((decide (x < u)) = false → (decide ((lastAt m x).getD 0 < 2)) = true → CellOk (On w2) b13 (0) (vc)) ∧ ((decide (x < u)) = false → (decide ((lastAt m x).getD 0 < 2)) = true → True) ∧ ((decide (x < u)) = false → (decide ((lastAt m x).getD 0 < 2)) = true → Callable Try.prog 39 ∧ CallOk Try.prog (On w2) 39 [vc, .int .i64 x].toArray (.bool (hasB cl x))) ∧ ((decide (x < u)) = false → (decide ((lastAt m x).getD 0 < 2)) = true → True) ∧ ((decide (x < u)) = false → True) ∧ TT ∧ TT ∧ True) hA H ⟨tv, by exact box_cell H 0 rfl 0, tv, tv, fun _ => by exact box_cell H 1 rfl 0, fun _ => tv, fun hg0 => by replace hg0 := of_decide_eq_false hg0; exact by exact mapN_look H 2 rfl (obj_on H 2 rfl) ⟨by omega, by omega⟩ Try.underlying130 Try.underlying3 (fun w => by kernel_rfl), fun _ => tv, fun _ => tv, fun _ _ => by exact box_cell H 3 rfl 0, fun _ _ => tv, fun hg0 hg1 => by replace hg0 := of_decide_eq_false hg0; replace hg1 := of_decide_eq_true hg1; exact ⟨callable_of, callOk_of fun w hw => by exact has_any vc cl x w (((H.on hw).get 4 rfl)) (by omega)⟩, fun _ _ => tv, fun _ => tv, tv, tv, tv⟩ fun a w4 hA H hG => ?_
 refine hK3 _ _ ?_
 refine go_ret_ ?_
 refine ret_one (P := Try.prog) (fn := Try.f114) (R := (fun e w' => ∃ q, e = .returned q ∧ (q = .bool (decide (x < u) || (decide ((lastAt m x).getD 0 < 2) && !hasB cl x)) ∧ ∃ S', Fr o w' S' (.box b5 3 [.int .i64 u] :: .box b8 130 [.map (some pb)] :: mapN Try.prog 3 pb m :: .box b13 27 [vc] :: .ro vc cl :: tl)))) 5 (.bool ((decide (x < u)) || ((decide ((lastAt m x).getD 0 < 2)) && (!(hasB cl x))))) hA ?_
 exact ⟨_, rfl, rfl, _, H⟩
theorem delrow_any (f : Nat) (cs : List Value) (p : Int → Bool) (v : Value) (l : List Int) (o : Orig) (S : Stab) (tl : List Res) (w : World) (hH : Fr o w S (.row 3 v l :: tl)) (hl : l.length ≤ 1000000) (hwf : ∀ x ∈ l, wfI x) (hf : Callable Try.prog f) (hp : ∀ (x : Int) (w' : World) (S' : Stab) (l' : List Int), wfI x → Fr o w' S' (.row 3 v l' :: tl) → Calls Try.prog f ([Value.int .i64 x] ++ cs).toArray w' (fun e w2 => ∃ q, e = .returned q ∧ (q = .bool (p x) ∧ ∃ S2, Fr o w2 S2 (.row 3 v l' :: tl)))) :
 Calls Try.prog 113 [v, (.func (.func f) #[] cs.toArray)].toArray w (fun e w' => ∃ q, e = .returned q ∧ ∃ S', Fr o w' S' (.row 3 q (l.filter (fun x => !p x)) :: tl)) := by
 have hib := idxP_bd p l
 refine enter Try.f113 42 Try.func113 fun a hA => ?_
 replace hA := env_sub [(0, v), (1, (.func (.func f) #[] cs.toArray))] hA
 have H := hH
 refine go_seq fun K1 hK1 => ?_
 refine q_reg [] [(0, v), (1, (.func (.func f) #[] cs.toArray))] (TT ∧ True) hA H ⟨tv, tv⟩ fun a w2 hA H hG => ?_
 refine hK1 _ _ ?_
 refine go_seq fun K3 hK3 => ?_
 refine region_list ?_
 refine q_list 0 2 [] [(0, v), (1, (.func (.func f) #[] cs.toArray)), (8, v), (9, (.func (.func f) #[] cs.toArray))] (TT ∧ TT ∧ True) hA H ⟨tv, tv, tv⟩ fun a w4 hA H hG => ?_
 refine list_at 2 ?_; refine q_any 2 10 137 #[.tmp 8, .tmp 9] #[27, 126] [v, (.func (.func f) #[] cs.toArray)] _ [(0, v), (1, (.func (.func f) #[] cs.toArray))] hA (idxrow_any f cs p v l o _ tl _ H (by omega) hwf hf hp) fun v5 a w6 hR7 hA => ?_
 obtain ⟨rfl, S, H⟩ := hR7
 refine q_list 3 1 [] [(0, v), (1, (.func (.func f) #[] cs.toArray)), (5, iv (idxP p l))] (TT ∧ True) hA H ⟨tv, tv⟩ fun a w8 hA H hG => ?_
 refine list_end ?_
 refine hK3 _ _ ?_
 refine go_seq fun K9 hK9 => ?_
 refine go_seq fun K10 hK10 => ?_
 refine q_reg [] [(0, v), (1, (.func (.func f) #[] cs.toArray)), (5, iv (idxP p l)), (12, .bool (decide (idxP p l = -1)))] (TT ∧ TT ∧ True) hA H ⟨tv, tv, tv⟩ fun a w11 hA H hG => ?_
 refine hK10 _ _ ?_
 refine go_cond hA (.tmp 12) (decide (idxP p l = -1)) (fun hb12 => ?_) (fun hb12 => ?_)
 · have hhb12 := of_decide_eq_true hb12
   refine go_seq fun K13 hK13 => ?_
   refine q_reg [] [(4, v)] (TT ∧ TT ∧ True) hA H ⟨tv, tv, tv⟩ fun a w14 hA H hG => ?_
   refine hK13 _ _ ?_
   refine go_ret_ ?_
   refine ret_one (P := Try.prog) (fn := Try.f113) (R := (fun e w' => ∃ q, e = .returned q ∧ ∃ S', Fr o w' S' (.row 3 q (l.filter (fun x => !p x)) :: tl))) 4 v hA ?_
   exact ⟨_, rfl, _, by rw [← del_none hhb12]; exact H⟩
 have hhb12 := of_decide_eq_false hb12
 refine go_skip ?_
 refine hK9 _ _ ?_
 refine go_seq fun K15 hK15 => ?_
 refine go_seq fun K16 hK16 => ?_
 refine q_reg [] [(0, v), (1, (.func (.func f) #[] cs.toArray)), (5, iv (idxP p l)), (6, iv ((idxP p l) + 1))] (TT ∧ (InR .i64 ((idxP p l) + 1)) ∧ TT ∧ True) hA H ⟨tv, ⟨by omega, by omega⟩, tv, tv⟩ fun a w17 hA H hG => ?_
 refine hK16 _ _ ?_
 refine go_block 0 ?_
 refine go_loop_ (Int × Int × List Int) (fun x_ a W => (fun (j : Int) (i : Int) (c : List Int) => EnvOk 42 a (keepEnv [(0, v), (1, (.func (.func f) #[] cs.toArray)), (5, iv i), (6, iv j)]) ∧ (∃ S, Fr o W S (.row 3 v c :: tl)) ∧ DelI p l j i c) x_.1 x_.2.1 x_.2.2) (fun x_ => (fun (j : Int) (i : Int) (c : List Int) => ((l.length : Int) - j).toNat) x_.1 x_.2.1 x_.2.2) (idxP p l + 1, idxP p l, l) ?_ (fun x_ a w19 hI => ?_)
 · (try dsimp only); exact ⟨env_sub _ hA, ⟨_, H⟩, del_start (by have := hhb12; omega)⟩
 obtain ⟨j, i, c⟩ := x_
 obtain ⟨hA, ⟨S, H⟩, hd⟩ := hI
 try dsimp only at hd
 replace H : Fr _ _ _ (.row 3 v c :: tl) := H
 have hd0 := hd.i0; have hd1 := hd.ij; have hd2 := hd.jn; have hd3 := hd.len
 refine go_seq fun K20 hK20 => ?_
 refine go_seq fun K21 hK21 => ?_
 refine q_reg [(18, iv (c.length : Int))] [(0, v), (1, (.func (.func f) #[] cs.toArray)), (5, iv i), (6, iv j), (19, .bool (decide (j < (c.length : Int))))] (TT ∧ TT ∧ (LenOk v (c.length : Int)) ∧ TT ∧ True) hA H ⟨tv, tv, by exact len_ok (H.out 0 rfl), tv, tv⟩ fun a w22 hA H hG => ?_
 refine hK21 _ _ ?_
 refine go_cond hA (.tmp 19) (decide (j < (c.length : Int))) (fun hb23 => ?_) (fun hb23 => ?_)
 · have hhb23 := of_decide_eq_true hb23
   refine go_skip ?_
   refine hK20 _ _ ?_
   refine go_seq fun K24 hK24 => ?_
   refine go_block 1 ?_
   refine go_seq fun K25 hK25 => ?_
   refine q_reg [(25, iv (c.getD j.toNat 0))] [(0, v), (1, (.func (.func f) #[] cs.toArray)), (5, iv i), (6, iv j), (7, iv (c.getD j.toNat 0))] (TT ∧ TT ∧ ((Try.prog.info? 3).isSome = true ∧ IdxOk v j) ∧ (CellOk (On w22) (hdB v) (hdO v + j.toNat * 1) (.int .i64 (c.getD j.toNat 0))) ∧ TT ∧ True) hA H ⟨tv, tv, ⟨by kernel_rfl, by exact idx_ok (H.out 0 rfl) (by omega) (by omega)⟩, by exact cell_flat (i := j) (H.out 0 rfl) (by omega) (by omega) 0 0, tv, tv⟩ fun a w26 hA H hG => ?_
   refine hK25 _ _ ?_
   refine go_seq fun K27 hK27 => ?_
   refine region_list ?_
   refine q_list 0 2 [] [(0, v), (1, (.func (.func f) #[] cs.toArray)), (5, iv i), (6, iv j), (7, iv (c.getD j.toNat 0)), (26, (.func (.func f) #[] cs.toArray)), (27, iv (c.getD j.toNat 0))] (TT ∧ TT ∧ True) hA H ⟨tv, tv, tv⟩ fun a w28 hA H hG => ?_
   refine list_at 2 ?_; refine q_anyC 2 28 (.tmp 26) f #[.tmp 27] #[3] [.int .i64 (c.getD j.toNat 0)] [] cs (fun u_ w_ => u_ = .bool (p (c.getD j.toNat 0)) ∧ ∃ S_, Fr o w_ S_ (.row 3 v c :: tl)) [(0, v), (1, (.func (.func f) #[] cs.toArray)), (5, iv i), (6, iv j), (7, iv (c.getD j.toNat 0))] hA hf (by exact hp (c.getD j.toNat 0) _ _ _ (by rw [hd.back j.toNat (by omega)]; exact getD_wf hwf (by omega)) H) fun v29 a w30 hR31 hA => ?_
   obtain ⟨rfl, S, H⟩ := hR31
   refine q_list 3 1 [] [(0, v), (1, (.func (.func f) #[] cs.toArray)), (5, iv i), (6, iv j), (7, iv (c.getD j.toNat 0)), (29, .bool (!(p (c.getD j.toNat 0))))] (TT ∧ True) hA H ⟨tv, tv⟩ fun a w32 hA H hG => ?_
   refine list_end ?_
   refine hK27 _ _ ?_
   refine go_cond hA (.tmp 29) (!(p (c.getD j.toNat 0))) (fun hb33 => ?_) (fun hb33 => ?_)
   · have hhb33 := (nT hb33)
     refine go_seq fun K34 hK34 => ?_
     refine region_list ?_
     refine q_list 0 4 [] [(0, v), (1, (.func (.func f) #[] cs.toArray)), (5, iv i), (6, iv j), (32, iv (c.getD j.toNat 0)), (33, .pointer (some ⟨hdB v, hdO v + i.toNat * 1, none⟩))] (TT ∧ TT ∧ TT ∧ ((Try.prog.info? 3).isSome = true ∧ IdxOk v i) ∧ True) hA H ⟨tv, tv, tv, ⟨by kernel_rfl, by exact idx_ok (H.out 0 rfl) (by omega) (by omega)⟩, tv⟩ fun a w35 hA H hG => ?_
     refine list_at 4 ?_; refine q_storeRow 4 3 (.tmp 33) (.tmp 32) 0 (i.toNat * 1) 3 v c (c.set i.toNat (c.getD j.toNat 0)) [.int .i64 (c.getD j.toNat 0)] (.int .i64 (c.getD j.toNat 0)) [(0, v), (1, (.func (.func f) #[] cs.toArray)), (5, iv i), (6, iv j)] hA H rfl rfl (Nat.zero_lt_succ _) (row_room (by omega) (by omega)) (List.length_set ..) (fun xs hxs => rd_setI (by omega) hxs) (fun v hv => by simp only [List.mem_cons, List.not_mem_nil, or_false] at hv; rcases hv with rfl; exact rfl) fun a w36 H hA hG => ?_
     replace H : Fr _ _ _ (.row 3 v (c.set i.toNat (c.getD j.toNat 0)) :: tl) := H
     refine list_end ?_
     refine hK34 _ _ ?_
     refine q_reg [] [(0, v), (1, (.func (.func f) #[] cs.toArray)), (5, iv (i + 1)), (6, iv j)] (TT ∧ (InR .i64 (i + 1)) ∧ TT ∧ True) hA H ⟨tv, ⟨by omega, by omega⟩, tv, tv⟩ fun a w37 hA H hG => ?_
     refine hK24 _ _ ?_
     refine q_reg [] [(0, v), (1, (.func (.func f) #[] cs.toArray)), (5, iv (i + 1)), (6, iv (j + 1))] (TT ∧ (InR .i64 (j + 1)) ∧ TT ∧ True) hA H ⟨tv, ⟨by omega, by omega⟩, tv, tv⟩ fun a w38 hA H hG => ?_
     refine ⟨(j + 1, i + 1, c.set i.toNat (c.getD j.toNat 0)), ⟨env_sub _ hA, ⟨_, H⟩, ?_⟩, ?_⟩
     · (try dsimp only); exact del_keep hd (by omega) hhb33
     (try dsimp only); omega
   have hhb33 := (nF hb33)
   refine go_skip ?_
   refine hK24 _ _ ?_
   refine q_reg [] [(0, v), (1, (.func (.func f) #[] cs.toArray)), (5, iv i), (6, iv (j + 1))] (TT ∧ (InR .i64 (j + 1)) ∧ TT ∧ True) hA H ⟨tv, ⟨by omega, by omega⟩, tv, tv⟩ fun a w39 hA H hG => ?_
   refine ⟨(j + 1, i, c), ⟨env_sub _ hA, ⟨_, H⟩, ?_⟩, ?_⟩
   · (try dsimp only); exact del_skip hd (by omega) hhb33
   (try dsimp only); omega
 have hhb23 := of_decide_eq_false hb23
 refine go_exit 0 ?_
 refine hK15 _ _ ?_
 refine go_seq fun K40 hK40 => ?_
 refine region_list ?_
 obtain ⟨ut, hut1, hut2⟩ := H.tailOf (P := Try.prog) 0 rfl i (by omega) (by omega) (t := 27) Try.underlying27 (by kernel_rfl)
 refine q_list 0 3 [(38, ut)] [(0, v), (5, iv i), (38, ut)] (TT ∧ TT ∧ (∀ w, (Instr.sliceAt 27 v (some (.int .i64 i)) none none).run Try.prog w = .ok ut w) ∧ True) hA H ⟨tv, tv, fun w => by exact hut1 .i64 w, tv⟩ fun a w41 hA H hG => ?_
 refine list_at 3 ?_; refine q_clearRow 3 27 (.tmp 38) 0 3 3 v ut c i.toNat [(0, v), (5, iv i)] hA H rfl hut2 (by omega) Try.underlying27 (fun w => by kernel_rfl) fun a w42 H hA hG => ?_
 replace H : Fr _ _ _ (.row 3 v (c.take i.toNat ++ List.replicate (c.length - i.toNat) (0 : Int)) :: tl) := H
 refine list_end ?_
 refine hK40 _ _ ?_
 refine go_seq fun K43 hK43 => ?_
 have hlc : (c.take i.toNat ++ List.replicate (c.length - i.toNat) (0 : Int)).length = c.length := by rw [List.length_append, List.length_take, List.length_replicate]; omega
 obtain ⟨u2, hq1, hq2, hq3⟩ := H.cut (P := Try.prog) 0 rfl i.toNat (by omega) (by omega) (t := 27) Try.underlying27 (by kernel_rfl)
 rw [del_end hd (by omega) rfl] at hq3; replace H := hq3
 rw [Int.toNat_of_nonneg hd0] at hq1
 replace H : Fr _ _ _ (.row 3 u2 (l.filter (fun x => !p x)) :: tl) := H
 refine q_reg [(41, u2)] [(4, u2)] (TT ∧ TT ∧ (∀ w, (Instr.sliceAt 27 v none (some (.int .i64 i)) none).run Try.prog w = .ok u2 w) ∧ TT ∧ True) hA H ⟨tv, tv, fun w => by exact hq1 .i64 w, tv, tv⟩ fun a w44 hA H hG => ?_
 refine hK43 _ _ ?_
 refine go_ret_ ?_
 refine ret_one (P := Try.prog) (fn := Try.f113) (R := (fun e w' => ∃ q, e = .returned q ∧ ∃ S', Fr o w' S' (.row 3 q (l.filter (fun x => !p x)) :: tl))) 4 u2 hA ?_
 exact ⟨_, rfl, _, H⟩
theorem cuts_any (n : Int) (ve : Value) (E : List (Int × Int)) (vv vl : Value) (V L : List Int) (o : Orig) (hn : -9223372036854775808 ≤ n ∧ n ≤ 9223372036854775807) (hE : Rd (· < o.w.heap.size) o.w ve E) (hV : Rd (· < o.w.heap.size) o.w vv V) (hL : Rd (· < o.w.heap.size) o.w vl L) :
 Calls Try.prog 48 [.agg #[.int .i64 n, ve], .agg #[vv, vl]].toArray o.w (Giv o (fun S v w' => ∃ p, v = .tuple #[p, .int .i64 (partE n E V L)] ∧ Rd S w' p (cutsE n E V L))) := by
 refine enter Try.f48 64 Try.func48 fun a hA => ?_
 replace hA := env_sub [(0, .agg #[.int .i64 n, ve]), (1, .agg #[vv, vl])] hA
 have H := Fr.start o
 refine go_seq fun K1 hK1 => ?_
 refine region_list ?_
 refine list_at 0 ?_; refine q_box 0 2 24 (.tmp 0) (.agg #[.int .i64 n, ve]) [.int .i64 n, ve] [(1, .agg #[vv, vl])] hA H fun b2 a w3 H hA hG hge_b2 => ?_
 clear hge_b2
 refine list_at 1 ?_; refine q_box 1 3 29 (.tmp 1) (.agg #[vv, vl]) [vv, vl] [(2, pv b2)] hA H fun b4 a w5 H hA hG hge_b4 => ?_
 clear hge_b4
 refine q_list 2 2 [] [(2, pv b2), (3, pv b4)] (TT ∧ TT ∧ True) hA H ⟨tv, tv, tv⟩ fun a w6 hA H hG => ?_
 refine list_end ?_
 refine hK1 _ _ ?_
 refine go_seq fun K7 hK7 => ?_
 refine region_list ?_
 refine q_list 0 2 [(17, .agg #[.int .i64 n, ve]), (18, .agg #[vv, vl])] [(2, pv b2), (17, .agg #[.int .i64 n, ve]), (18, .agg #[vv, vl])] (((Try.prog.info? 24).isSome = true ∧ RowOk (On w6) b2 (0) (Try.prog.cellsOf 24) #[.int .i64 n, ve]) ∧ ((Try.prog.info? 29).isSome = true ∧ RowOk (On w6) b4 (0) (Try.prog.cellsOf 29) #[vv, vl]) ∧ True) hA H ⟨⟨by kernel_rfl, by exact box_row H 1 rfl 0 2⟩, ⟨by kernel_rfl, by exact box_row H 0 rfl 0 2⟩, tv⟩ fun a w8 hA H hG => ?_
 refine list_at 2 ?_; refine q_call 2 19 47 #[.tmp 17, .tmp 18] #[24, 29] [.agg #[.int .i64 n, ve], .agg #[vv, vl]] (fun S v_ w' => ∃ p_, v_ = .tuple #[p_, .int .i64 (partE n E V L)] ∧ Rd S w' p_ ((blocksE n E V L))) [(2, pv b2)] hA H (by exact blocks_any n ve E vv vl V L H.at (by omega) ((H.arg hE)) ((H.arg hV)) ((H.arg hL))) fun v9 a w10 S hR11 H hA hG => ?_
 obtain ⟨v9p, rfl, hR11p⟩ := hR11
 replace H := H.ro hR11p
 replace H : Fr _ _ _ [.ro v9p (blocksE n E V L), .box b4 29 [vv, vl], .box b2 24 [.int .i64 n, ve]] := H
 refine q_list 3 5 [] [(2, pv b2), (6, v9p), (7, iv (partE n E V L))] (TT ∧ TT ∧ TT ∧ TT ∧ TT ∧ True) hA H ⟨tv, tv, tv, tv, tv, tv⟩ fun a w13 hA H hG => ?_
 refine list_end ?_
 refine hK7 _ _ ?_
 refine go_seq fun K14 hK14 => ?_
 refine go_seq fun K15 hK15 => ?_
 refine q_reg [] [(2, pv b2), (6, v9p), (7, iv (partE n E V L)), (23, .bool (!decide (partE n E V L = 0)))] (TT ∧ TT ∧ True) hA H ⟨tv, tv, tv⟩ fun a w16 hA H hG => ?_
 refine hK15 _ _ ?_
 refine go_cond hA (.tmp 23) (!decide (partE n E V L = 0)) (fun hb17 => ?_) (fun hb17 => ?_)
 · have hhb17 := of_decide_eq_false (nT hb17)
   refine go_seq fun K18 hK18 => ?_
   refine q_reg [] [(4, (.slice none 0 0)), (5, iv (partE n E V L))] (TT ∧ TT ∧ TT ∧ True) hA H ⟨tv, tv, tv, tv⟩ fun a w19 hA H hG => ?_
   refine hK18 _ _ ?_
   refine go_ret_ ?_
   refine ret_two 4 5 (.slice none 0 0) (.int .i64 (partE n E V L)) hA ?_
   exact ⟨_, rfl, ⟨_, rfl, by unfold cutsE; rw [if_pos hhb17]; exact rd_nil⟩, H.below⟩
 have hhb17 := of_decide_eq_true (nF hb17)
 refine go_skip ?_
 refine hK14 _ _ ?_
 refine go_seq fun K20 hK20 => ?_
 have hpt : partE n E V L = 0 := by omega
 have hbe : blocksE n E V L = blocksL n E V L := by unfold blocksE; rw [if_neg (by omega)]
 have hr9 := rightE_0 (part_iff.1 hpt).1
 have hbl9 := blocks_len n E V L
 have hl9 := rises_len (part_iff.1 hpt).2.2.1 (by omega)
 have hv9 := rises_len (part_iff.1 hpt).2.1 (by omega)
 simp only [hbe] at H
 refine region_list ?_
 refine q_list 0 2 [(26, iv n)] [(6, v9p), (26, iv n)] ((0 < Try.prog.cellsOf 3) ∧ (CellOk (On w16) b2 (0 + 0) (.int .i64 n)) ∧ True) hA H ⟨by decide +kernel, by exact box_cell H 2 rfl 0, tv⟩ fun a w21 hA H hG => ?_
 refine list_at 2 ?_; refine q_makeA 2 27 27 (.tmp 26) 3 n (.int .i64 0) [(6, v9p)] hA H Try.underlying27 (make_info (by kernel_rfl)) (by omega) (by omega) fun b22 a w23 H hA hG hge_b22 => ?_
 clear hge_b22
 replace H : Fr _ _ _ [.box b22 3 (arrV n fun j => .int .i64 (cnt0 j)), .ro v9p (blocksL n E V L), .box b4 29 [vv, vl], .box b2 24 [.int .i64 n, ve]] := H
 refine q_list 3 1 [] [(6, v9p), (8, (.slice (some ⟨b22, 0, none⟩) n.toNat n.toNat))] (TT ∧ True) hA H ⟨tv, tv⟩ fun a w24 hA H hG => ?_
 refine list_end ?_
 refine hK20 _ _ ?_
 refine go_seq fun K25 hK25 => ?_
 refine go_seq fun K26 hK26 => ?_
 refine q_reg [(29, iv ((blocksL n E V L).length : Int))] [(8, (.slice (some ⟨b22, 0, none⟩) n.toNat n.toNat)), (28, v9p), (29, iv ((blocksL n E V L).length : Int)), (30, iv 0)] (TT ∧ (LenOk v9p ((blocksL n E V L).length : Int)) ∧ TT ∧ True) hA H ⟨tv, by exact len_ok (H.get 1 rfl), tv, tv⟩ fun a w27 hA H hG => ?_
 refine hK26 _ _ ?_
 refine go_block 0 ?_
 refine go_loop_ (Int × (Int → Int)) (fun x_ a W => (fun (i : Int) (c : (Int → Int)) => EnvOk 64 a (keepEnv [(8, (.slice (some ⟨b22, 0, none⟩) n.toNat n.toNat)), (28, v9p), (29, iv ((blocksL n E V L).length : Int)), (30, iv i)]) ∧ (∃ S, Fr o W S [.box b22 3 (arrV n fun j => .int .i64 (c j)), .ro v9p (blocksL n E V L), .box b4 29 [vv, vl], .box b2 24 [.int .i64 n, ve]]) ∧ 0 ≤ i ∧ i ≤ ((blocksL n E V L).length : Int) ∧ ∀ v, c v = cntI ((blocksL n E V L).take i.toNat) v) x_.1 x_.2) (fun x_ => (fun (i : Int) (c : (Int → Int)) => (((blocksL n E V L).length : Int) - i).toNat) x_.1 x_.2) (0, cnt0) ?_ (fun x_ a w29 hI => ?_)
 · (try dsimp only); exact ⟨env_sub _ hA, ⟨_, H⟩, by omega, by omega, fun v => by simp [cnt0, cntI, hasIn]⟩
 obtain ⟨i, c⟩ := x_
 obtain ⟨hA, ⟨S, H⟩, h0, h0b, hc⟩ := hI
 try dsimp only at h0 h0b hc
 replace H : Fr _ _ _ [.box b22 3 (arrV n fun j => .int .i64 (c j)), .ro v9p (blocksL n E V L), .box b4 29 [vv, vl], .box b2 24 [.int .i64 n, ve]] := H
 refine go_seq fun K30 hK30 => ?_
 refine q_reg [] [(8, (.slice (some ⟨b22, 0, none⟩) n.toNat n.toNat)), (28, v9p), (29, iv ((blocksL n E V L).length : Int)), (30, iv i), (31, .bool (decide (i < ((blocksL n E V L).length : Int))))] (TT ∧ True) hA H ⟨tv, tv⟩ fun a w31 hA H hG => ?_
 refine hK30 _ _ ?_
 refine go_seq fun K32 hK32 => ?_
 refine go_cond hA (.tmp 31) (decide (i < ((blocksL n E V L).length : Int))) (fun hb33 => ?_) (fun hb33 => ?_)
 · have hhb33 := of_decide_eq_true hb33
   refine go_skip ?_
   refine hK32 _ _ ?_
   refine go_seq fun K34 hK34 => ?_
   refine go_block 1 ?_
   refine go_seq fun K35 hK35 => ?_
   have hbm := getD_mem (l := blocksL n E V L) (i := i.toNat) (d := ([], [])) (by omega)
   obtain ⟨q1, q2, q3, q4⟩ := block_rises hpt hbm
   have q5 := rises_len q1 (by omega); have q6 := rises_len q2 (by omega)
   refine region_list ?_
   obtain ⟨ea36, eb37, hea36c, hea36a, hea36b⟩ := cell_twoC (C := On w31) H.keepsS (H.getS 1 rfl) i
   replace H := (H.ro (hea36a (by omega) (by omega))).sink 1 4
   replace H := (H.ro (hea36b (by omega) (by omega))).sink 1 5
   replace H : Fr _ _ _ [.box b22 3 (arrV n fun j => .int .i64 (c j)), .ro v9p (blocksL n E V L), .box b4 29 [vv, vl], .box b2 24 [.int .i64 n, ve], .ro ea36 ((blocksL n E V L).getD i.toNat ([], [])).1, .ro eb37 ((blocksL n E V L).getD i.toNat ([], [])).2] := H
   refine q_list 0 2 [(33, .agg #[ea36, eb37])] [(8, (.slice (some ⟨b22, 0, none⟩) n.toNat n.toNat)), (28, v9p), (29, iv ((blocksL n E V L).length : Int)), (30, iv i), (33, .agg #[ea36, eb37])] (((Try.prog.info? 29).isSome = true ∧ IdxOk v9p i) ∧ ((Try.prog.info? 29).isSome = true ∧ RowOk (On w31) (hdB v9p) (hdO v9p + i.toNat * 2) (Try.prog.cellsOf 29) #[ea36, eb37]) ∧ True) hA H ⟨⟨by kernel_rfl, by exact idx_ok (H.get 1 rfl) (by omega) (by omega)⟩, ⟨by kernel_rfl, by exact hea36c (by omega) (by omega)⟩, tv⟩ fun a w38 hA H hG => ?_
   refine list_at 2 ?_; refine q_alloc 2 10 29 [(.slice none 0 0), (.slice none 0 0)] [(8, (.slice (some ⟨b22, 0, none⟩) n.toNat n.toNat)), (28, v9p), (29, iv ((blocksL n E V L).length : Int)), (30, iv i), (33, .agg #[ea36, eb37])] hA H fun b39 a w40 H hA hG hge_b39 => ?_
   clear hge_b39
   refine list_at 3 ?_; refine q_store 3 29 (.tmp 10) (.tmp 33) 0 b39 (0) 29 [(.slice none 0 0), (.slice none 0 0)] [ea36, eb37] [ea36, eb37] (.agg #[ea36, eb37]) [(8, (.slice (some ⟨b22, 0, none⟩) n.toNat n.toNat)), (10, pv b39), (28, v9p), (29, iv ((blocksL n E V L).length : Int)), (30, iv i)] hA H rfl rfl (Nat.le_of_ble_eq_true (by kernel_rfl)) rfl (fun v hv => by simp only [List.mem_cons, List.not_mem_nil, or_false] at hv; rcases hv with rfl | rfl; exact (rd_one (H.get 5 rfl)); exact (rd_one (H.get 6 rfl))) fun a w41 H hA hG => ?_
   replace H : Fr _ _ _ [.box b39 29 [ea36, eb37], .box b22 3 (arrV n fun j => .int .i64 (c j)), .ro v9p (blocksL n E V L), .box b4 29 [vv, vl], .box b2 24 [.int .i64 n, ve], .ro ea36 ((blocksL n E V L).getD i.toNat ([], [])).1, .ro eb37 ((blocksL n E V L).getD i.toNat ([], [])).2] := H
   refine list_end ?_
   refine hK35 _ _ ?_
   refine go_seq fun K42 hK42 => ?_
   refine q_reg [(35, ea36), (36, iv ((((blocksL n E V L).getD i.toNat ([], [])).1).length : Int))] [(8, (.slice (some ⟨b22, 0, none⟩) n.toNat n.toNat)), (28, v9p), (29, iv ((blocksL n E V L).length : Int)), (30, iv i), (35, ea36), (36, iv ((((blocksL n E V L).getD i.toNat ([], [])).1).length : Int)), (37, iv 0)] ((0 < Try.prog.cellsOf 27) ∧ (CellOk (On w41) b39 (0 + 0) (ea36)) ∧ (LenOk ea36 ((((blocksL n E V L).getD i.toNat ([], [])).1).length : Int)) ∧ TT ∧ True) hA H ⟨by decide +kernel, by exact box_cell H 0 rfl 0, by exact len_ok (H.get 5 rfl), tv, tv⟩ fun a w43 hA H hG => ?_
   refine hK42 _ _ ?_
   refine go_block 2 ?_
   refine go_loop_ (Int × (Int → Int)) (fun x_ a W => (fun (k : Int) (d : (Int → Int)) => EnvOk 64 a (keepEnv [(8, (.slice (some ⟨b22, 0, none⟩) n.toNat n.toNat)), (28, v9p), (29, iv ((blocksL n E V L).length : Int)), (30, iv i), (35, ea36), (36, iv ((((blocksL n E V L).getD i.toNat ([], [])).1).length : Int)), (37, iv k)]) ∧ (∃ S, Fr o W S [.box b39 29 [ea36, eb37], .box b22 3 (arrV n fun j => .int .i64 (d j)), .ro v9p (blocksL n E V L), .box b4 29 [vv, vl], .box b2 24 [.int .i64 n, ve], .ro ea36 ((blocksL n E V L).getD i.toNat ([], [])).1, .ro eb37 ((blocksL n E V L).getD i.toNat ([], [])).2]) ∧ 0 ≤ k ∧ ∀ v, d v = cntI ((blocksL n E V L).take i.toNat) v + (if v ∈ ((blocksL n E V L).getD i.toNat ([], [])).1.take k.toNat then 1 else 0)) x_.1 x_.2) (fun x_ => (fun (k : Int) (d : (Int → Int)) => ((((blocksL n E V L).getD i.toNat ([], [])).1.length : Int) - k).toNat) x_.1 x_.2) (0, c) ?_ (fun x_ a w45 hI => ?_)
   · (try dsimp only); exact ⟨env_sub _ hA, ⟨_, H⟩, by omega, fun v => by rw [hc v]; simp⟩
   obtain ⟨k, d⟩ := x_
   obtain ⟨hA, ⟨S, H⟩, k0, hd⟩ := hI
   try dsimp only at k0 hd
   replace H : Fr _ _ _ [.box b39 29 [ea36, eb37], .box b22 3 (arrV n fun j => .int .i64 (d j)), .ro v9p (blocksL n E V L), .box b4 29 [vv, vl], .box b2 24 [.int .i64 n, ve], .ro ea36 ((blocksL n E V L).getD i.toNat ([], [])).1, .ro eb37 ((blocksL n E V L).getD i.toNat ([], [])).2] := H
   refine go_seq fun K46 hK46 => ?_
   refine q_reg [] [(8, (.slice (some ⟨b22, 0, none⟩) n.toNat n.toNat)), (28, v9p), (29, iv ((blocksL n E V L).length : Int)), (30, iv i), (35, ea36), (36, iv ((((blocksL n E V L).getD i.toNat ([], [])).1).length : Int)), (37, iv k), (38, .bool (decide (k < ((((blocksL n E V L).getD i.toNat ([], [])).1).length : Int))))] (TT ∧ True) hA H ⟨tv, tv⟩ fun a w47 hA H hG => ?_
   refine hK46 _ _ ?_
   refine go_seq fun K48 hK48 => ?_
   refine go_cond hA (.tmp 38) (decide (k < ((((blocksL n E V L).getD i.toNat ([], [])).1).length : Int))) (fun hb49 => ?_) (fun hb49 => ?_)
   · have hhb49 := of_decide_eq_true hb49
     refine go_skip ?_
     refine hK48 _ _ ?_
     refine go_seq fun K50 hK50 => ?_
     refine go_block 3 ?_
     refine go_seq fun K51 hK51 => ?_
     have hx9 := (rises_iff.1 q1).2 _ (mem_getD.2 ⟨k.toNat, by omega, rfl⟩)
     refine q_reg [(40, iv ((((blocksL n E V L).getD i.toNat ([], [])).1).getD k.toNat 0))] [(8, (.slice (some ⟨b22, 0, none⟩) n.toNat n.toNat)), (12, iv ((((blocksL n E V L).getD i.toNat ([], [])).1).getD k.toNat 0)), (28, v9p), (29, iv ((blocksL n E V L).length : Int)), (30, iv i), (35, ea36), (36, iv ((((blocksL n E V L).getD i.toNat ([], [])).1).length : Int)), (37, iv k)] (((Try.prog.info? 3).isSome = true ∧ IdxOk ea36 k) ∧ (CellOk (On w47) (hdB ea36) (hdO ea36 + k.toNat * 1) (.int .i64 ((((blocksL n E V L).getD i.toNat ([], [])).1).getD k.toNat 0))) ∧ TT ∧ True) hA H ⟨⟨by kernel_rfl, by exact idx_ok (H.get 5 rfl) (by omega) (by omega)⟩, by exact cell_flat (i := k) (H.get 5 rfl) (by omega) (by omega) 0 0, tv, tv⟩ fun a w52 hA H hG => ?_
     refine hK51 _ _ ?_
     have hd9 := hd (((blocksL n E V L).getD i.toNat ([], [])).1.getD k.toNat 0)
     have hd8 := cntI_le ((blocksL n E V L).take i.toNat) (((blocksL n E V L).getD i.toNat ([], [])).1.getD k.toNat 0)
     rw [List.length_take] at hd8
     have hd7 : (0 : Int) ≤ d (((blocksL n E V L).getD i.toNat ([], [])).1.getD k.toNat 0) ∧ d (((blocksL n E V L).getD i.toNat ([], [])).1.getD k.toNat 0) ≤ 1000000 := by rw [hd9]; split <;> omega
     refine region_list ?_
     refine q_list 0 6 [(44, iv (d ((((blocksL n E V L).getD i.toNat ([], [])).1).getD k.toNat 0)))] [(8, (.slice (some ⟨b22, 0, none⟩) n.toNat n.toNat)), (28, v9p), (29, iv ((blocksL n E V L).length : Int)), (30, iv i), (35, ea36), (36, iv ((((blocksL n E V L).getD i.toNat ([], [])).1).length : Int)), (37, iv k), (45, iv ((d ((((blocksL n E V L).getD i.toNat ([], [])).1).getD k.toNat 0)) + 1)), (46, .pointer (some ⟨b22, 0 + ((((blocksL n E V L).getD i.toNat ([], [])).1).getD k.toNat 0).toNat * 1, none⟩))] (TT ∧ TT ∧ ((Try.prog.info? 3).isSome = true ∧ IdxOk (.slice (some ⟨b22, 0, none⟩) n.toNat n.toNat) ((((blocksL n E V L).getD i.toNat ([], [])).1).getD k.toNat 0)) ∧ (CellOk (On w52) b22 (0 + ((((blocksL n E V L).getD i.toNat ([], [])).1).getD k.toNat 0).toNat * 1) (.int .i64 (d ((((blocksL n E V L).getD i.toNat ([], [])).1).getD k.toNat 0)))) ∧ (InR .i64 ((d ((((blocksL n E V L).getD i.toNat ([], [])).1).getD k.toNat 0)) + 1)) ∧ ((Try.prog.info? 3).isSome = true ∧ IdxOk (.slice (some ⟨b22, 0, none⟩) n.toNat n.toNat) ((((blocksL n E V L).getD i.toNat ([], [])).1).getD k.toNat 0)) ∧ True) hA H ⟨tv, tv, ⟨by kernel_rfl, arr_idx (by omega) (by omega)⟩, by exact arr_cell H 1 rfl (by omega) (by omega), ⟨by omega, by omega⟩, ⟨by kernel_rfl, arr_idx (by omega) (by omega)⟩, tv⟩ fun a w53 hA H hG => ?_
     refine list_at 6 ?_; refine q_store 6 3 (.tmp 46) (.tmp 45) 1 b22 (0 + ((((blocksL n E V L).getD i.toNat ([], [])).1).getD k.toNat 0).toNat * 1) 3 ((arrV n fun j => .int .i64 (d j))) [.int .i64 ((d ((((blocksL n E V L).getD i.toNat ([], [])).1).getD k.toNat 0)) + 1)] ((arrV n fun j => .int .i64 ((Deep.upd d ((((blocksL n E V L).getD i.toNat ([], [])).1).getD k.toNat 0) ((d ((((blocksL n E V L).getD i.toNat ([], [])).1).getD k.toNat 0)) + 1)) j))) (.int .i64 ((d ((((blocksL n E V L).getD i.toNat ([], [])).1).getD k.toNat 0)) + 1)) [(8, (.slice (some ⟨b22, 0, none⟩) n.toNat n.toNat)), (28, v9p), (29, iv ((blocksL n E V L).length : Int)), (30, iv i), (35, ea36), (36, iv ((((blocksL n E V L).getD i.toNat ([], [])).1).length : Int)), (37, iv k)] hA H rfl rfl (arr_room (by omega) (by omega)) (arr_set (by omega) (by omega) (congrArg (Value.int .i64) (Deep.upd_same _ _ _)) (fun j hj => congrArg (Value.int .i64) (Deep.upd_ne _ _ hj))) (fun v hv => by simp only [List.mem_cons, List.not_mem_nil, or_false] at hv; rcases hv with rfl; exact rfl) fun a w54 H hA hG => ?_
     replace H : Fr _ _ _ [.box b39 29 [ea36, eb37], .box b22 3 (arrV n fun j => .int .i64 ((Deep.upd d ((((blocksL n E V L).getD i.toNat ([], [])).1).getD k.toNat 0) ((d ((((blocksL n E V L).getD i.toNat ([], [])).1).getD k.toNat 0)) + 1)) j)), .ro v9p (blocksL n E V L), .box b4 29 [vv, vl], .box b2 24 [.int .i64 n, ve], .ro ea36 ((blocksL n E V L).getD i.toNat ([], [])).1, .ro eb37 ((blocksL n E V L).getD i.toNat ([], [])).2] := H
     refine list_end ?_
     refine hK50 _ _ ?_
     refine q_reg [] [(8, (.slice (some ⟨b22, 0, none⟩) n.toNat n.toNat)), (28, v9p), (29, iv ((blocksL n E V L).length : Int)), (30, iv i), (35, ea36), (36, iv ((((blocksL n E V L).getD i.toNat ([], [])).1).length : Int)), (37, iv (k + 1))] ((InR .i64 (k + 1)) ∧ TT ∧ True) hA H ⟨⟨by omega, by omega⟩, tv, tv⟩ fun a w55 hA H hG => ?_
     refine ⟨(k + 1, Deep.upd d ((((blocksL n E V L).getD i.toNat ([], [])).1).getD k.toNat 0) ((d ((((blocksL n E V L).getD i.toNat ([], [])).1).getD k.toNat 0)) + 1)), ⟨env_sub _ hA, ⟨_, H⟩, ?_⟩, ?_⟩
     · (try dsimp only); exact ⟨by omega, fun v => cnt_step k0 (by omega) (asc_nodup (rises_iff.1 q1).1) hd v⟩
     (try dsimp only); omega
   have hhb49 := of_decide_eq_false hb49
   refine go_exit 2 ?_
   refine hK34 _ _ ?_
   refine q_reg [] [(8, (.slice (some ⟨b22, 0, none⟩) n.toNat n.toNat)), (28, v9p), (29, iv ((blocksL n E V L).length : Int)), (30, iv (i + 1))] ((InR .i64 (i + 1)) ∧ TT ∧ True) hA H ⟨⟨by omega, by omega⟩, tv, tv⟩ fun a w56 hA H hG => ?_
   replace H := H.drop 6
   replace H := H.drop 5
   replace H := H.drop 0
   refine ⟨(i + 1, d), ⟨env_sub _ hA, ⟨_, H⟩, ?_⟩, ?_⟩
   · (try dsimp only); exact ⟨by omega, by omega, fun v => by rw [hd v, show ((blocksL n E V L).getD i.toNat ([], [])).1.take k.toNat = ((blocksL n E V L).getD i.toNat ([], [])).1 from List.take_of_length_le (by omega), cntI_snoc h0 (by omega)]⟩
   (try dsimp only); omega
 have hhb33 := of_decide_eq_false hb33
 refine go_exit 0 ?_
 refine hK25 _ _ ?_
 refine go_seq fun K57 hK57 => ?_
 refine q_reg [] [(8, (.slice (some ⟨b22, 0, none⟩) n.toNat n.toNat)), (13, (.slice none 0 0))] (TT ∧ True) hA H ⟨tv, tv⟩ fun a w58 hA H hG => ?_
 refine hK57 _ _ ?_
 refine go_seq fun K59 hK59 => ?_
 refine go_seq fun K60 hK60 => ?_
 refine q_reg [(50, iv n)] [(13, (.slice none 0 0)), (49, (.slice (some ⟨b22, 0, none⟩) n.toNat n.toNat)), (50, iv n), (51, iv 0)] (TT ∧ (LenOk (.slice (some ⟨b22, 0, none⟩) n.toNat n.toNat) n) ∧ TT ∧ True) hA H ⟨tv, arr_len_ok (by omega), tv, tv⟩ fun a w61 hA H hG => ?_
 refine hK60 _ _ ?_
 refine go_block 4 ?_
 replace H := H.newRow (α := Int) 3
 refine go_loop_ (Int × Value × List Int) (fun x_ a W => (fun (j : Int) (vr : Value) (l : List Int) => EnvOk 64 a (keepEnv [(13, vr), (49, (.slice (some ⟨b22, 0, none⟩) n.toNat n.toNat)), (50, iv n), (51, iv j)]) ∧ (∃ S, Fr o W S [.row 3 vr l, .box b22 3 (arrV n fun j => .int .i64 (c j)), .ro v9p (blocksL n E V L), .box b4 29 [vv, vl], .box b2 24 [.int .i64 n, ve]]) ∧ 0 ≤ j ∧ j ≤ n ∧ (l.length : Int) ≤ j ∧ l = (upto j).filter (fun v => decide (1 < cntI (blocksL n E V L) v))) x_.1 x_.2.1 x_.2.2) (fun x_ => (fun (j : Int) (vr : Value) (l : List Int) => (n - j).toNat) x_.1 x_.2.1 x_.2.2) (0, .slice none 0 0, []) ?_ (fun x_ a w63 hI => ?_)
 · (try dsimp only); exact ⟨env_sub _ hA, ⟨_, H⟩, by omega, by omega, by simp, rfl⟩
 obtain ⟨j, vr, l⟩ := x_
 obtain ⟨hA, ⟨S, H⟩, j0, j0b, j1, hj⟩ := hI
 try dsimp only at j0 j0b j1 hj
 replace H : Fr _ _ _ [.row 3 vr l, .box b22 3 (arrV n fun j => .int .i64 (c j)), .ro v9p (blocksL n E V L), .box b4 29 [vv, vl], .box b2 24 [.int .i64 n, ve]] := H
 refine go_seq fun K64 hK64 => ?_
 refine q_reg [] [(13, vr), (49, (.slice (some ⟨b22, 0, none⟩) n.toNat n.toNat)), (50, iv n), (51, iv j), (52, .bool (decide (j < n)))] (TT ∧ True) hA H ⟨tv, tv⟩ fun a w65 hA H hG => ?_
 refine hK64 _ _ ?_
 refine go_seq fun K66 hK66 => ?_
 refine go_cond hA (.tmp 52) (decide (j < n)) (fun hb67 => ?_) (fun hb67 => ?_)
 · have hhb67 := of_decide_eq_true hb67
   refine go_skip ?_
   refine hK66 _ _ ?_
   refine go_seq fun K68 hK68 => ?_
   refine go_block 5 ?_
   refine go_seq fun K69 hK69 => ?_
   refine q_reg [(55, iv (c j))] [(13, vr), (14, iv j), (15, iv (c j)), (49, (.slice (some ⟨b22, 0, none⟩) n.toNat n.toNat)), (50, iv n), (51, iv j)] (TT ∧ ((Try.prog.info? 3).isSome = true ∧ IdxOk (.slice (some ⟨b22, 0, none⟩) n.toNat n.toNat) j) ∧ (CellOk (On w65) b22 (0 + j.toNat * 1) (.int .i64 (c j))) ∧ TT ∧ TT ∧ True) hA H ⟨tv, ⟨by kernel_rfl, arr_idx (by omega) (by omega)⟩, by exact arr_cell H 1 rfl (by omega) (by omega), tv, tv, tv⟩ fun a w70 hA H hG => ?_
   refine hK69 _ _ ?_
   refine go_seq fun K71 hK71 => ?_
   refine q_reg [] [(13, vr), (14, iv j), (49, (.slice (some ⟨b22, 0, none⟩) n.toNat n.toNat)), (50, iv n), (51, iv j), (57, .bool (decide ((1 : Int) < c j)))] (TT ∧ TT ∧ True) hA H ⟨tv, tv, tv⟩ fun a w72 hA H hG => ?_
   refine hK71 _ _ ?_
   refine go_cond hA (.tmp 57) (decide ((1 : Int) < c j)) (fun hb73 => ?_) (fun hb73 => ?_)
   · have hhb73 := of_decide_eq_true hb73
     refine region_list ?_
     refine q_list 0 2 [] [(49, (.slice (some ⟨b22, 0, none⟩) n.toNat n.toNat)), (50, iv n), (51, iv j), (58, vr), (59, iv j)] (TT ∧ TT ∧ True) hA H ⟨tv, tv, tv⟩ fun a w74 hA H hG => ?_
     refine list_at 2 ?_; refine q_lit 2 60 27 1 #[(0, .tmp 59)] 3 [(0, iv j)] [.int .i64 j] [(49, (.slice (some ⟨b22, 0, none⟩) n.toNat n.toNat)), (50, iv n), (51, iv j), (58, vr)] hA H fun b75 a w76 H hA hG hge_b75 => ?_
     clear hge_b75
     refine list_at 3 ?_; refine q_push 3 61 (.tmp 58) (.tmp 60) 1 0 b75 1 1 vr l [j] [.int .i64 j] [(49, (.slice (some ⟨b22, 0, none⟩) n.toNat n.toNat)), (50, iv n), (51, iv j)] hA H Try.E27 rfl rfl (by exact (RowRd.single (α := Int) rfl)) rfl (by simp only [List.length_cons, List.length_nil, List.length_append]; omega) (by decide) fun v77 a w78 H hA hG => ?_
     replace H : Fr _ _ _ [.row 3 v77 (l ++ [j]), .box b22 3 (arrV n fun j => .int .i64 (c j)), .ro v9p (blocksL n E V L), .box b4 29 [vv, vl], .box b2 24 [.int .i64 n, ve]] := H.drop 0
     refine q_list 4 1 [] [(13, v77), (49, (.slice (some ⟨b22, 0, none⟩) n.toNat n.toNat)), (50, iv n), (51, iv j)] (TT ∧ True) hA H ⟨tv, tv⟩ fun a w79 hA H hG => ?_
     refine list_end ?_
     refine hK68 _ _ ?_
     refine q_reg [] [(13, v77), (49, (.slice (some ⟨b22, 0, none⟩) n.toNat n.toNat)), (50, iv n), (51, iv (j + 1))] ((InR .i64 (j + 1)) ∧ TT ∧ True) hA H ⟨⟨by omega, by omega⟩, tv, tv⟩ fun a w80 hA H hG => ?_
     refine ⟨(j + 1, v77, l ++ [j]), ⟨env_sub _ hA, ⟨_, H⟩, ?_⟩, ?_⟩
     · (try dsimp only); exact ⟨by omega, by omega, by (try simp only [List.length_append, List.length_cons, List.length_nil]); omega, by rw [hj, upto_succ j0, List.filter_append, List.filter_cons]; rw [hc j, List.take_of_length_le (by omega)] at hhb73; rw [if_pos (decide_eq_true hhb73)]; rfl⟩
     (try dsimp only); omega
   have hhb73 := of_decide_eq_false hb73
   refine go_skip ?_
   refine hK68 _ _ ?_
   refine q_reg [] [(13, vr), (49, (.slice (some ⟨b22, 0, none⟩) n.toNat n.toNat)), (50, iv n), (51, iv (j + 1))] ((InR .i64 (j + 1)) ∧ TT ∧ True) hA H ⟨⟨by omega, by omega⟩, tv, tv⟩ fun a w81 hA H hG => ?_
   refine ⟨(j + 1, vr, l), ⟨env_sub _ hA, ⟨_, H⟩, ?_⟩, ?_⟩
   · (try dsimp only); exact ⟨by omega, by omega, by (try simp only [List.length_append, List.length_cons, List.length_nil]); omega, by rw [hj, upto_succ j0, List.filter_append, List.filter_cons]; rw [hc j, List.take_of_length_le (by omega)] at hhb73; rw [if_neg (by rw [decide_eq_true_eq]; exact hhb73)]; simp⟩
   (try dsimp only); omega
 have hhb67 := of_decide_eq_false hb67
 refine go_exit 4 ?_
 refine hK59 _ _ ?_
 refine go_seq fun K82 hK82 => ?_
 refine q_reg [] [(4, vr), (5, iv 0)] (TT ∧ TT ∧ TT ∧ True) hA H ⟨tv, tv, tv, tv⟩ fun a w83 hA H hG => ?_
 refine hK82 _ _ ?_
 refine go_ret_ ?_
 refine ret_two 4 5 vr (.int .i64 0) hA ?_
 have ho := (H.give 0 rfl)
 obtain rfl : j = n := by omega
 rw [cuts_upto hpt] at hj; rw [hj] at ho; exact ⟨_, rfl, ⟨_, by rw [hpt], by unfold cutsE; rw [if_neg (by omega)]; exact ho⟩, H.below⟩
theorem beside_any (n : Int) (ve : Value) (E : List (Int × Int)) (vv vl : Value) (V L : List Int) (u : Int) (o : Orig) (hn : -9223372036854775808 ≤ n ∧ n ≤ 9223372036854775807) (hE : Rd (· < o.w.heap.size) o.w ve E) (hV : Rd (· < o.w.heap.size) o.w vv V) (hL : Rd (· < o.w.heap.size) o.w vl L) (hu : wfI u) (hwv : ∀ x ∈ V, wfI x) (hin : ∀ j, j < L.length → 0 ≤ L.getD j 0 ∧ L.getD j 0 < (E.length : Int)) (hw9 : ∀ j, j < E.length → wfI (E.getD j (0, 0)).1 ∧ wfI (E.getD j (0, 0)).2) (hs1 : V.length ≤ 100000) (hs2 : L.length ≤ 100000) :
 Calls Try.prog 91 [.agg #[.int .i64 n, ve], .agg #[vv, vl], .int .i64 u].toArray o.w (Giv o (fun S v w' => Rd S w' v (besideE n E V L u))) := by
 unfold wfI at hu hw9
 refine enter Try.f91 92 Try.func91 fun a hA => ?_
 replace hA := env_sub [(0, .agg #[.int .i64 n, ve]), (1, .agg #[vv, vl]), (2, iv u)] hA
 have H := Fr.start o
 refine go_seq fun K1 hK1 => ?_
 refine region_list ?_
 refine list_at 0 ?_; refine q_box 0 3 24 (.tmp 0) (.agg #[.int .i64 n, ve]) [.int .i64 n, ve] [(1, .agg #[vv, vl]), (2, iv u)] hA H fun b2 a w3 H hA hG hge_b2 => ?_
 clear hge_b2
 refine list_at 1 ?_; refine q_box 1 4 29 (.tmp 1) (.agg #[vv, vl]) [vv, vl] [(2, iv u), (3, pv b2)] hA H fun b4 a w5 H hA hG hge_b4 => ?_
 clear hge_b4
 refine list_at 2 ?_; refine q_box 2 5 3 (.tmp 2) (.int .i64 u) [.int .i64 u] [(3, pv b2), (4, pv b4)] hA H fun b6 a w7 H hA hG hge_b6 => ?_
 clear hge_b6
 refine q_list 3 1 [] [(3, pv b2), (4, pv b4), (5, pv b6)] (TT ∧ True) hA H ⟨tv, tv⟩ fun a w8 hA H hG => ?_
 refine list_end ?_
 refine hK1 _ _ ?_
 refine go_seq fun K9 hK9 => ?_
 refine region_list ?_
 refine list_at 0 ?_; refine q_alloc 0 7 29 [(.slice none 0 0), (.slice none 0 0)] [(3, pv b2), (4, pv b4), (5, pv b6)] hA H fun b10 a w11 H hA hG hge_b10 => ?_
 clear hge_b10
 replace H := H.newRow (α := Int) 3
 replace H := H.newRow (α := Int) 3
 refine list_end ?_
 refine hK9 _ _ ?_
 refine go_seq fun K12 hK12 => ?_
 refine region_list ?_
 refine list_at 0 ?_; refine q_makeMap Int 3 0 15 130 [(3, pv b2), (4, pv b4), (5, pv b6), (7, pv b10)] hA H fun b13 a w14 H hA hG hge_b13 => ?_
 clear hge_b13
 replace H : Fr _ _ _ [mapN Try.prog 3 b13 [], .row 3 (.slice none 0 0) ([] : List Int), .row 3 (.slice none 0 0) ([] : List Int), .box b10 29 [(.slice none 0 0), (.slice none 0 0)], .box b6 3 [.int .i64 u], .box b4 29 [vv, vl], .box b2 24 [.int .i64 n, ve]] := H
 refine list_at 1 ?_; refine q_alloc 1 8 130 [(.map none)] [(3, pv b2), (4, pv b4), (5, pv b6), (7, pv b10), (15, (.map (some b13)))] hA H fun b15 a w16 H hA hG hge_b15 => ?_
 clear hge_b15
 refine list_at 2 ?_; refine q_store 2 130 (.tmp 8) (.tmp 15) 0 b15 (0) 130 [(.map none)] [(.map (some b13))] [(.map (some b13))] (.map (some b13)) [(3, pv b2), (4, pv b4), (5, pv b6), (7, pv b10), (8, pv b15)] hA H rfl rfl (Nat.le_of_ble_eq_true (by kernel_rfl)) rfl (fun v hv => by simp only [List.mem_cons, List.not_mem_nil, or_false] at hv; rcases hv with rfl; exact rfl) fun a w17 H hA hG => ?_
 replace H : Fr _ _ _ [.box b15 130 [(.map (some b13))], mapN Try.prog 3 b13 [], .row 3 (.slice none 0 0) ([] : List Int), .row 3 (.slice none 0 0) ([] : List Int), .box b10 29 [(.slice none 0 0), (.slice none 0 0)], .box b6 3 [.int .i64 u], .box b4 29 [vv, vl], .box b2 24 [.int .i64 n, ve]] := H
 refine list_end ?_
 refine hK12 _ _ ?_
 refine go_seq fun K18 hK18 => ?_
 refine go_seq fun K19 hK19 => ?_
 refine q_reg [(17, vv), (18, iv (V.length : Int))] [(3, pv b2), (4, pv b4), (5, pv b6), (7, pv b10), (8, pv b15), (17, vv), (18, iv (V.length : Int)), (19, iv 0)] ((0 < Try.prog.cellsOf 27) ∧ (CellOk (On w17) b4 (0 + 0) (vv)) ∧ (LenOk vv (V.length : Int)) ∧ TT ∧ True) hA H ⟨by decide +kernel, by exact box_cell H 6 rfl 0, by exact len_ok (H.arg hV), tv, tv⟩ fun a w20 hA H hG => ?_
 refine hK19 _ _ ?_
 refine go_block 0 ?_
 replace H := Fr.order [.box b15 130 [(.map (some b13))], mapN Try.prog 3 b13 [], .row 3 (.slice none 0 0) ([] : List Int), .row 3 (.slice none 0 0) ([] : List Int), .box b10 29 [(.slice none 0 0), (.slice none 0 0)], .box b6 3 [.int .i64 u], .box b4 29 [vv, vl], .box b2 24 [.int .i64 n, ve]] [] H [2, 3, 4, 0, 1, 5, 6, 7] (by show List.Perm _ (List.range 8); decide)
 replace H : Fr _ _ _ [.row 3 (.slice none 0 0) ([] : List Int), .row 3 (.slice none 0 0) ([] : List Int), .box b10 29 [(.slice none 0 0), (.slice none 0 0)], .box b15 130 [(.map (some b13))], mapN Try.prog 3 b13 [], .box b6 3 [.int .i64 u], .box b4 29 [vv, vl], .box b2 24 [.int .i64 n, ve]] := H
 refine go_loop_ (Int × Value × List Int) (fun x_ a W => (fun (i : Int) (va : Value) (la : List Int) => EnvOk 92 a (keepEnv [(3, pv b2), (4, pv b4), (5, pv b6), (7, pv b10), (8, pv b15), (17, vv), (18, iv (V.length : Int)), (19, iv i)]) ∧ (∃ S, Fr o W S [.row 3 (.slice none 0 0) ([] : List Int), .row 3 va la, .box b10 29 [va, (.slice none 0 0)], .box b15 130 [(.map (some b13))], mapN Try.prog 3 b13 [], .box b6 3 [.int .i64 u], .box b4 29 [vv, vl], .box b2 24 [.int .i64 n, ve]]) ∧ 0 ≤ i ∧ i ≤ (V.length : Int) ∧ (la.length : Int) ≤ i ∧ la = butV u (V.take i.toNat)) x_.1 x_.2.1 x_.2.2) (fun x_ => (fun (i : Int) (va : Value) (la : List Int) => ((V.length : Int) - i).toNat) x_.1 x_.2.1 x_.2.2) (0, .slice none 0 0, []) ?_ (fun x_ a w22 hI => ?_)
 · (try dsimp only); exact ⟨env_sub _ hA, ⟨_, H⟩, by omega, by omega, by simp, rfl⟩
 obtain ⟨i, va, la⟩ := x_
 obtain ⟨hA, ⟨S, H⟩, h0, h0b, h1, hi⟩ := hI
 try dsimp only at h0 h0b h1 hi
 replace H : Fr _ _ _ [.row 3 (.slice none 0 0) ([] : List Int), .row 3 va la, .box b10 29 [va, (.slice none 0 0)], .box b15 130 [(.map (some b13))], mapN Try.prog 3 b13 [], .box b6 3 [.int .i64 u], .box b4 29 [vv, vl], .box b2 24 [.int .i64 n, ve]] := H
 refine go_seq fun K23 hK23 => ?_
 refine q_reg [] [(3, pv b2), (4, pv b4), (5, pv b6), (7, pv b10), (8, pv b15), (17, vv), (18, iv (V.length : Int)), (19, iv i), (20, .bool (decide (i < (V.length : Int))))] (TT ∧ True) hA H ⟨tv, tv⟩ fun a w24 hA H hG => ?_
 refine hK23 _ _ ?_
 refine go_seq fun K25 hK25 => ?_
 refine go_cond hA (.tmp 20) (decide (i < (V.length : Int))) (fun hb26 => ?_) (fun hb26 => ?_)
 · have hhb26 := of_decide_eq_true hb26
   refine go_skip ?_
   refine hK25 _ _ ?_
   refine go_seq fun K27 hK27 => ?_
   refine go_block 1 ?_
   refine go_seq fun K28 hK28 => ?_
   refine q_reg [(22, iv (V.getD i.toNat 0))] [(3, pv b2), (4, pv b4), (5, pv b6), (7, pv b10), (8, pv b15), (10, iv (V.getD i.toNat 0)), (17, vv), (18, iv (V.length : Int)), (19, iv i)] (((Try.prog.info? 3).isSome = true ∧ IdxOk vv i) ∧ (CellOk (On w24) (hdB vv) (hdO vv + i.toNat * 1) (.int .i64 (V.getD i.toNat 0))) ∧ TT ∧ True) hA H ⟨⟨by kernel_rfl, by exact idx_ok (H.arg hV) (by omega) (by omega)⟩, by exact cell_flat (i := i) (H.arg hV) (by omega) (by omega) 0 0, tv, tv⟩ fun a w29 hA H hG => ?_
   refine hK28 _ _ ?_
   refine go_seq fun K30 hK30 => ?_
   refine q_reg [(24, iv u)] [(3, pv b2), (4, pv b4), (5, pv b6), (7, pv b10), (8, pv b15), (10, iv (V.getD i.toNat 0)), (17, vv), (18, iv (V.length : Int)), (19, iv i), (25, .bool (!decide ((V.getD i.toNat 0) = u)))] (TT ∧ (CellOk (On w29) b6 (0) (.int .i64 u)) ∧ TT ∧ True) hA H ⟨tv, by exact box_cell H 5 rfl 0, tv, tv⟩ fun a w31 hA H hG => ?_
   refine hK30 _ _ ?_
   refine go_cond hA (.tmp 25) (!decide ((V.getD i.toNat 0) = u)) (fun hb32 => ?_) (fun hb32 => ?_)
   · have hhb32 := of_decide_eq_false (nT hb32)
     refine region_list ?_
     refine q_list 0 3 [(27, va)] [(3, pv b2), (4, pv b4), (5, pv b6), (7, pv b10), (8, pv b15), (17, vv), (18, iv (V.length : Int)), (19, iv i), (27, va), (28, iv (V.getD i.toNat 0))] ((0 < Try.prog.cellsOf 27) ∧ (CellOk (On w31) b10 (0 + 0) (va)) ∧ TT ∧ True) hA H ⟨by decide +kernel, by exact box_cell H 2 rfl 0, tv, tv⟩ fun a w33 hA H hG => ?_
     refine list_at 3 ?_; refine q_lit 3 29 27 1 #[(0, .tmp 28)] 3 [(0, iv (V.getD i.toNat 0))] [.int .i64 (V.getD i.toNat 0)] [(3, pv b2), (4, pv b4), (5, pv b6), (7, pv b10), (8, pv b15), (17, vv), (18, iv (V.length : Int)), (19, iv i), (27, va)] hA H fun b34 a w35 H hA hG hge_b34 => ?_
     clear hge_b34
     refine list_at 4 ?_; refine q_push 4 30 (.tmp 27) (.tmp 29) 2 0 b34 1 1 va la [(V.getD i.toNat 0)] [.int .i64 (V.getD i.toNat 0)] [(3, pv b2), (4, pv b4), (5, pv b6), (7, pv b10), (8, pv b15), (17, vv), (18, iv (V.length : Int)), (19, iv i)] hA H Try.E27 rfl rfl (by exact (RowRd.single (α := Int) rfl)) rfl (by simp only [List.length_cons, List.length_nil, List.length_append]; omega) (by decide) fun v36 a w37 H hA hG => ?_
     replace H : Fr _ _ _ [.row 3 (.slice none 0 0) ([] : List Int), .row 3 v36 (la ++ [(V.getD i.toNat 0)]), .box b10 29 [va, (.slice none 0 0)], .box b15 130 [(.map (some b13))], mapN Try.prog 3 b13 [], .box b6 3 [.int .i64 u], .box b4 29 [vv, vl], .box b2 24 [.int .i64 n, ve]] := H.drop 0
     refine q_list 5 1 [] [(3, pv b2), (4, pv b4), (5, pv b6), (7, pv b10), (8, pv b15), (17, vv), (18, iv (V.length : Int)), (19, iv i), (30, v36), (31, .pointer (some ⟨b10, 0 + 0, none⟩))] ((0 < Try.prog.cellsOf 27) ∧ True) hA H ⟨by decide +kernel, tv⟩ fun a w38 hA H hG => ?_
     refine list_at 6 ?_; refine q_store 6 27 (.tmp 31) (.tmp 30) 2 b10 (0 + 0) 29 [va, (.slice none 0 0)] [v36] [v36, (.slice none 0 0)] v36 [(3, pv b2), (4, pv b4), (5, pv b6), (7, pv b10), (8, pv b15), (17, vv), (18, iv (V.length : Int)), (19, iv i)] hA H rfl (one_cells (rd_one (H.out 1 rfl))) (Nat.le_of_ble_eq_true (by kernel_rfl)) rfl (fun v hv => by simp only [List.mem_cons, List.not_mem_nil, or_false] at hv; rcases hv with rfl; exact (rd_one (H.out 1 rfl))) fun a w39 H hA hG => ?_
     replace H : Fr _ _ _ [.row 3 (.slice none 0 0) ([] : List Int), .row 3 v36 (la ++ [(V.getD i.toNat 0)]), .box b10 29 [v36, (.slice none 0 0)], .box b15 130 [(.map (some b13))], mapN Try.prog 3 b13 [], .box b6 3 [.int .i64 u], .box b4 29 [vv, vl], .box b2 24 [.int .i64 n, ve]] := H
     refine list_end ?_
     refine hK27 _ _ ?_
     refine q_reg [] [(3, pv b2), (4, pv b4), (5, pv b6), (7, pv b10), (8, pv b15), (17, vv), (18, iv (V.length : Int)), (19, iv (i + 1))] ((InR .i64 (i + 1)) ∧ TT ∧ True) hA H ⟨⟨by omega, by omega⟩, tv, tv⟩ fun a w40 hA H hG => ?_
     replace H := Fr.order [.row 3 (.slice none 0 0) ([] : List Int), .row 3 v36 (la ++ [(V.getD i.toNat 0)]), .box b10 29 [v36, (.slice none 0 0)], .box b15 130 [(.map (some b13))], mapN Try.prog 3 b13 [], .box b6 3 [.int .i64 u], .box b4 29 [vv, vl], .box b2 24 [.int .i64 n, ve]] [] H [0, 1, 2, 3, 4, 5, 6, 7] (by show List.Perm _ (List.range 8); decide)
     replace H : Fr _ _ _ [.row 3 (.slice none 0 0) ([] : List Int), .row 3 v36 (la ++ [(V.getD i.toNat 0)]), .box b10 29 [v36, (.slice none 0 0)], .box b15 130 [(.map (some b13))], mapN Try.prog 3 b13 [], .box b6 3 [.int .i64 u], .box b4 29 [vv, vl], .box b2 24 [.int .i64 n, ve]] := H
     refine ⟨(i + 1, v36, la ++ [(V.getD i.toNat 0)]), ⟨env_sub _ hA, ⟨_, H⟩, ?_⟩, ?_⟩
     · (try dsimp only); exact ⟨by omega, by omega, by (try simp only [List.length_append, List.length_cons, List.length_nil]); omega, by rw [hi, butV_snoc h0 (by omega), if_neg hhb32]⟩
     (try dsimp only); omega
   have hhb32 := of_decide_eq_true (nF hb32)
   refine go_skip ?_
   refine hK27 _ _ ?_
   refine q_reg [] [(3, pv b2), (4, pv b4), (5, pv b6), (7, pv b10), (8, pv b15), (17, vv), (18, iv (V.length : Int)), (19, iv (i + 1))] ((InR .i64 (i + 1)) ∧ TT ∧ True) hA H ⟨⟨by omega, by omega⟩, tv, tv⟩ fun a w41 hA H hG => ?_
   replace H := Fr.order [.row 3 (.slice none 0 0) ([] : List Int), .row 3 va la, .box b10 29 [va, (.slice none 0 0)], .box b15 130 [(.map (some b13))], mapN Try.prog 3 b13 [], .box b6 3 [.int .i64 u], .box b4 29 [vv, vl], .box b2 24 [.int .i64 n, ve]] [] H [0, 1, 2, 3, 4, 5, 6, 7] (by show List.Perm _ (List.range 8); decide)
   replace H : Fr _ _ _ [.row 3 (.slice none 0 0) ([] : List Int), .row 3 va la, .box b10 29 [va, (.slice none 0 0)], .box b15 130 [(.map (some b13))], mapN Try.prog 3 b13 [], .box b6 3 [.int .i64 u], .box b4 29 [vv, vl], .box b2 24 [.int .i64 n, ve]] := H
   refine ⟨(i + 1, va, la), ⟨env_sub _ hA, ⟨_, H⟩, ?_⟩, ?_⟩
   · (try dsimp only); exact ⟨by omega, by omega, by (try simp only [List.length_append, List.length_cons, List.length_nil]); omega, by rw [hi, butV_snoc h0 (by omega), if_pos (by have := hhb32; omega), List.append_nil]⟩
   (try dsimp only); omega
 have hhb26 := of_decide_eq_false hb26
 refine go_exit 0 ?_
 refine hK18 _ _ ?_
 refine go_seq fun K42 hK42 => ?_
 refine go_seq fun K43 hK43 => ?_
 have hv9 := hi
 refine q_reg [(34, vl), (35, iv (L.length : Int))] [(3, pv b2), (5, pv b6), (7, pv b10), (8, pv b15), (34, vl), (35, iv (L.length : Int)), (36, iv 0)] ((0 < Try.prog.cellsOf 27) ∧ (CellOk (On w24) b4 (0 + 1) (vl)) ∧ (LenOk vl (L.length : Int)) ∧ TT ∧ True) hA H ⟨by decide +kernel, by exact box_cell H 6 rfl 1, by exact len_ok (H.arg hL), tv, tv⟩ fun a w44 hA H hG => ?_
 refine hK43 _ _ ?_
 refine go_block 2 ?_
 replace H := Fr.order [.row 3 (.slice none 0 0) ([] : List Int), .row 3 va la, .box b10 29 [va, (.slice none 0 0)], .box b15 130 [(.map (some b13))], mapN Try.prog 3 b13 [], .box b6 3 [.int .i64 u], .box b4 29 [vv, vl], .box b2 24 [.int .i64 n, ve]] [] H [4, 0, 1, 2, 3, 5, 6, 7] (by show List.Perm _ (List.range 8); decide)
 replace H : Fr _ _ _ [mapN Try.prog 3 b13 [], .row 3 (.slice none 0 0) ([] : List Int), .row 3 va la, .box b10 29 [va, (.slice none 0 0)], .box b15 130 [(.map (some b13))], .box b6 3 [.int .i64 u], .box b4 29 [vv, vl], .box b2 24 [.int .i64 n, ve]] := H
 refine go_loop_ (Int × List (Int × Int) × Value × List Int) (fun x_ a W => (fun (i : Int) (m : List (Int × Int)) (vb : Value) (lb : List Int) => EnvOk 92 a (keepEnv [(3, pv b2), (5, pv b6), (7, pv b10), (8, pv b15), (34, vl), (35, iv (L.length : Int)), (36, iv i)]) ∧ (∃ S, Fr o W S [mapN Try.prog 3 b13 m, .row 3 vb lb, .row 3 va la, .box b10 29 [va, vb], .box b15 130 [(.map (some b13))], .box b6 3 [.int .i64 u], .box b4 29 [vv, vl], .box b2 24 [.int .i64 n, ve]]) ∧ 0 ≤ i ∧ i ≤ (L.length : Int) ∧ (m.length : Int) ≤ i ∧ (lb.length : Int) ≤ i ∧ (∀ v, lastAt m v = cntO (othE E u (L.take i.toNat)) v) ∧ lb = leftE E u (L.take i.toNat)) x_.1 x_.2.1 x_.2.2.1 x_.2.2.2) (fun x_ => (fun (i : Int) (m : List (Int × Int)) (vb : Value) (lb : List Int) => ((L.length : Int) - i).toNat) x_.1 x_.2.1 x_.2.2.1 x_.2.2.2) (0, [], .slice none 0 0, []) ?_ (fun x_ a w46 hI => ?_)
 · (try dsimp only); exact ⟨env_sub _ hA, ⟨_, H⟩, by omega, by omega, by simp, by simp, fun v => by simp [lastAt, cntO, othE], rfl⟩
 obtain ⟨i, m, vb, lb⟩ := x_
 obtain ⟨hA, ⟨S, H⟩, h0, h0b, h1, h2, hm, hi⟩ := hI
 try dsimp only at h0 h0b h1 h2 hm hi
 replace H : Fr _ _ _ [mapN Try.prog 3 b13 m, .row 3 vb lb, .row 3 va la, .box b10 29 [va, vb], .box b15 130 [(.map (some b13))], .box b6 3 [.int .i64 u], .box b4 29 [vv, vl], .box b2 24 [.int .i64 n, ve]] := H
 refine go_seq fun K47 hK47 => ?_
 refine q_reg [] [(3, pv b2), (5, pv b6), (7, pv b10), (8, pv b15), (34, vl), (35, iv (L.length : Int)), (36, iv i), (37, .bool (decide (i < (L.length : Int))))] (TT ∧ True) hA H ⟨tv, tv⟩ fun a w48 hA H hG => ?_
 refine hK47 _ _ ?_
 refine go_seq fun K49 hK49 => ?_
 refine go_cond hA (.tmp 37) (decide (i < (L.length : Int))) (fun hb50 => ?_) (fun hb50 => ?_)
 · have hhb50 := of_decide_eq_true hb50
   refine go_skip ?_
   refine hK49 _ _ ?_
   refine go_seq fun K51 hK51 => ?_
   refine go_block 3 ?_
   refine go_seq fun K52 hK52 => ?_
   refine q_reg [(39, iv (L.getD i.toNat 0))] [(3, pv b2), (5, pv b6), (7, pv b10), (8, pv b15), (12, iv (L.getD i.toNat 0)), (34, vl), (35, iv (L.length : Int)), (36, iv i)] (((Try.prog.info? 3).isSome = true ∧ IdxOk vl i) ∧ (CellOk (On w48) (hdB vl) (hdO vl + i.toNat * 1) (.int .i64 (L.getD i.toNat 0))) ∧ TT ∧ True) hA H ⟨⟨by kernel_rfl, by exact idx_ok (H.arg hL) (by omega) (by omega)⟩, by exact cell_flat (i := i) (H.arg hL) (by omega) (by omega) 0 0, tv, tv⟩ fun a w53 hA H hG => ?_
   refine hK52 _ _ ?_
   refine go_seq fun K54 hK54 => ?_
   refine q_reg [(40, iv u)] [(3, pv b2), (5, pv b6), (7, pv b10), (8, pv b15), (12, iv (L.getD i.toNat 0)), (34, vl), (35, iv (L.length : Int)), (36, iv i), (40, iv u)] ((CellOk (On w53) b6 (0) (.int .i64 u)) ∧ True) hA H ⟨by exact box_cell H 5 rfl 0, tv⟩ fun a w55 hA H hG => ?_
   refine hK54 _ _ ?_
   refine go_block 4 ?_
   refine go_seq fun K56 hK56 => ?_
   have hx9 := hin i.toNat (by omega)
   have hy9 := hw9 (L.getD i.toNat 0).toNat (by omega)
   have hc1 := oth_bd h0 hm (E.getD (L.getD i.toNat 0).toNat (0, 0)).1; have hc2 := oth_bd h0 hm (E.getD (L.getD i.toNat 0).toNat (0, 0)).2
   refine q_reg [(49, ve), (53, iv ((E.getD (L.getD i.toNat 0).toNat (0, 0)).1))] [(3, pv b2), (5, pv b6), (7, pv b10), (8, pv b15), (12, iv (L.getD i.toNat 0)), (34, vl), (35, iv (L.length : Int)), (36, iv i), (40, iv u), (47, .bool (decide (u = (E.getD (L.getD i.toNat 0).toNat (0, 0)).1)))] ((0 < Try.prog.cellsOf 22) ∧ (CellOk (On w55) b2 (0 + 1) (ve)) ∧ TT ∧ ((Try.prog.info? 99).isSome = true ∧ IdxOk ve (L.getD i.toNat 0)) ∧ (0 < Try.prog.cellsOf 3) ∧ (CellOk (On w55) (hdB ve) (hdO ve + (L.getD i.toNat 0).toNat * 2 + 0) (.int .i64 ((E.getD (L.getD i.toNat 0).toNat (0, 0)).1))) ∧ TT ∧ TT ∧ True) hA H ⟨by decide +kernel, by exact box_cell H 7 rfl 1, tv, ⟨by kernel_rfl, by exact idx_ok (H.arg hE) (by omega) (by omega)⟩, by decide +kernel, by exact cell_flat (i := (L.getD i.toNat 0)) (H.arg hE) (by omega) (by omega) (0, 0) 0, tv, tv, tv⟩ fun a w57 hA H hG => ?_
   refine hK56 _ _ ?_
   refine go_cond hA (.tmp 47) (decide (u = (E.getD (L.getD i.toNat 0).toNat (0, 0)).1)) (fun hb58 => ?_) (fun hb58 => ?_)
   · have hhb58 := of_decide_eq_true hb58
     have H0 := H
     have hM0 := H0.keeps none (.inl rfl)
     refine region_mix (But w57 none) [0, 1, 2, 3, 4, 5, 6, 7, 8] 10 ?_
     replace H := H.drawn; have hD := But.drew w57 none
     generalize ({ w57 with drawn := w57.drawn + 1 } : World) = w59 at H hD ⊢
     refine m_take (n := 3) [0, 1, 2, 3, 4, 5, 6] #[true, true, true, true, true, true, true, false, false, false] [(55, (.map (some b13))), (57, ve), (61, iv ((E.getD (L.getD i.toNat 0).toNat (0, 0)).2))] [(3, pv b2), (5, pv b6), (7, pv b10), (8, pv b15), (34, vl), (35, iv (L.length : Int)), (36, iv i), (55, (.map (some b13))), (61, iv ((E.getD (L.getD i.toNat 0).toNat (0, 0)).2))] ((CellOk (But w57 none) b15 (0) ((.map (some b13)))) ∧ (0 < Try.prog.cellsOf 22) ∧ (CellOk (But w57 none) b2 (0 + 1) (ve)) ∧ TT ∧ ((Try.prog.info? 99).isSome = true ∧ IdxOk ve (L.getD i.toNat 0)) ∧ (0 < Try.prog.cellsOf 3) ∧ (CellOk (But w57 none) (hdB ve) (hdO ve + (L.getD i.toNat 0).toNat * 2 + 1) (.int .i64 ((E.getD (L.getD i.toNat 0).toNat (0, 0)).2))) ∧ True) hA hD ⟨by exact box_cellC (box_atC H0 none 4 rfl (fun e => by cases e)) 0, by decide +kernel, by exact box_cellC (box_atC H0 none 7 rfl (fun e => by cases e)) 1, tv, ⟨by kernel_rfl, by exact idx_ok (H0.argT hE) (by omega) (by omega)⟩, by decide +kernel, by exact cell_flatC hM0 (i := (L.getD i.toNat 0)) (H0.argT hE) (by omega) (by omega) (0, 0) 1, tv⟩ fun a hA => ?_
     refine m_one 7 ?_; refine q_one 7 [(62, iv ((lastAt m ((E.getD (L.getD i.toNat 0).toNat (0, 0)).2)).getD 0))] [(3, pv b2), (5, pv b6), (7, pv b10), (8, pv b15), (34, vl), (35, iv (L.length : Int)), (36, iv i), (55, (.map (some b13))), (61, iv ((E.getD (L.getD i.toNat 0).toNat (0, 0)).2)), (62, iv ((lastAt m ((E.getD (L.getD i.toNat 0).toNat (0, 0)).2)).getD 0))] ((∀ w', On w59 w' → (Instr.lookup 130 (.map (some b13)) (.int .i64 ((E.getD (L.getD i.toNat 0).toNat (0, 0)).2)) false).run Try.prog w' = .ok (.int .i64 ((lastAt m ((E.getD (L.getD i.toNat 0).toNat (0, 0)).2)).getD 0)) w') ∧ True) hA H ⟨by exact mapN_look H 0 rfl (obj_on H 0 rfl) ⟨by omega, by omega⟩ Try.underlying130 Try.underlying3 (fun w => by kernel_rfl), tv⟩ fun a w60 H hA hG => ?_
     replace hD := hD.below hG
     refine ⟨fun _ => hD, ?_⟩
     refine m_take (n := 1) [8] #[true, true, true, true, true, true, true, true, true, false] [] [(3, pv b2), (5, pv b6), (7, pv b10), (8, pv b15), (34, vl), (35, iv (L.length : Int)), (36, iv i), (55, (.map (some b13))), (61, iv ((E.getD (L.getD i.toNat 0).toNat (0, 0)).2)), (63, iv (((lastAt m ((E.getD (L.getD i.toNat 0).toNat (0, 0)).2)).getD 0) + 1))] ((InR .i64 (((lastAt m ((E.getD (L.getD i.toNat 0).toNat (0, 0)).2)).getD 0) + 1)) ∧ True) hA hD ⟨⟨by omega, by omega⟩, tv⟩ fun a hA => ?_
     refine m_one 9 ?_; refine q_mapUpdateN 9 130 (.tmp 55) (.tmp 61) (.tmp 63) 0 b13 m ((E.getD (L.getD i.toNat 0).toNat (0, 0)).2) (((lastAt m ((E.getD (L.getD i.toNat 0).toNat (0, 0)).2)).getD 0) + 1) [(3, pv b2), (5, pv b6), (7, pv b10), (8, pv b15), (34, vl), (35, iv (L.length : Int)), (36, iv i)] hA H rfl ⟨by omega, by omega⟩ (by (try simp only [List.length_append, List.length_cons, List.length_nil]); omega) Try.underlying130 Try.underlying3 fun a w61 H hA hG => ?_
     replace H : Fr _ _ _ [mapN Try.prog 3 b13 (m ++ [((E.getD (L.getD i.toNat 0).toNat (0, 0)).2, ((lastAt m ((E.getD (L.getD i.toNat 0).toNat (0, 0)).2)).getD 0) + 1)]), .row 3 vb lb, .row 3 va la, .box b10 29 [va, vb], .box b15 130 [(.map (some b13))], .box b6 3 [.int .i64 u], .box b4 29 [vv, vl], .box b2 24 [.int .i64 n, ve]] := H
     refine ⟨fun h => absurd h (by decide), ?_⟩
     refine m_end ?_
     refine hK51 _ _ ?_
     refine q_reg [] [(3, pv b2), (5, pv b6), (7, pv b10), (8, pv b15), (34, vl), (35, iv (L.length : Int)), (36, iv (i + 1))] ((InR .i64 (i + 1)) ∧ TT ∧ True) hA H ⟨⟨by omega, by omega⟩, tv, tv⟩ fun a w62 hA H hG => ?_
     refine ⟨(i + 1, m ++ [((E.getD (L.getD i.toNat 0).toNat (0, 0)).2, ((lastAt m ((E.getD (L.getD i.toNat 0).toNat (0, 0)).2)).getD 0) + 1)], vb, lb), ⟨env_sub _ hA, ⟨_, H⟩, ?_⟩, ?_⟩
     · (try dsimp only); exact ⟨by omega, by omega, by (try simp only [List.length_append, List.length_cons, List.length_nil]); omega, by (try simp only [List.length_append, List.length_cons, List.length_nil]); omega, fun v => by rw [othE_snoc h0 (by omega), if_pos hhb58]; exact cnt_put hm _ v, by rw [hi, leftE_snoc h0 (by omega), if_pos hhb58, List.append_nil]⟩
     (try dsimp only); omega
   have hhb58 := of_decide_eq_false hb58
   refine go_seq fun K63 hK63 => ?_
   refine q_reg [(66, ve), (70, iv ((E.getD (L.getD i.toNat 0).toNat (0, 0)).2))] [(3, pv b2), (5, pv b6), (7, pv b10), (8, pv b15), (12, iv (L.getD i.toNat 0)), (34, vl), (35, iv (L.length : Int)), (36, iv i), (64, .bool (decide (u = (E.getD (L.getD i.toNat 0).toNat (0, 0)).2)))] ((0 < Try.prog.cellsOf 22) ∧ (CellOk (On w57) b2 (0 + 1) (ve)) ∧ TT ∧ ((Try.prog.info? 99).isSome = true ∧ IdxOk ve (L.getD i.toNat 0)) ∧ (0 < Try.prog.cellsOf 3) ∧ (CellOk (On w57) (hdB ve) (hdO ve + (L.getD i.toNat 0).toNat * 2 + 1) (.int .i64 ((E.getD (L.getD i.toNat 0).toNat (0, 0)).2))) ∧ TT ∧ TT ∧ True) hA H ⟨by decide +kernel, by exact box_cell H 7 rfl 1, tv, ⟨by kernel_rfl, by exact idx_ok (H.arg hE) (by omega) (by omega)⟩, by decide +kernel, by exact cell_flat (i := (L.getD i.toNat 0)) (H.arg hE) (by omega) (by omega) (0, 0) 1, tv, tv, tv⟩ fun a w64 hA H hG => ?_
   refine hK63 _ _ ?_
   refine go_cond hA (.tmp 64) (decide (u = (E.getD (L.getD i.toNat 0).toNat (0, 0)).2)) (fun hb65 => ?_) (fun hb65 => ?_)
   · have hhb65 := of_decide_eq_true hb65
     have H0 := H
     have hM0 := H0.keeps none (.inl rfl)
     refine region_mix (But w64 none) [0, 1, 2, 3, 4, 5, 6, 7, 8] 10 ?_
     replace H := H.drawn; have hD := But.drew w64 none
     generalize ({ w64 with drawn := w64.drawn + 1 } : World) = w66 at H hD ⊢
     refine m_take (n := 3) [0, 1, 2, 3, 4, 5, 6] #[true, true, true, true, true, true, true, false, false, false] [(72, (.map (some b13))), (74, ve), (78, iv ((E.getD (L.getD i.toNat 0).toNat (0, 0)).1))] [(3, pv b2), (5, pv b6), (7, pv b10), (8, pv b15), (34, vl), (35, iv (L.length : Int)), (36, iv i), (72, (.map (some b13))), (78, iv ((E.getD (L.getD i.toNat 0).toNat (0, 0)).1))] ((CellOk (But w64 none) b15 (0) ((.map (some b13)))) ∧ (0 < Try.prog.cellsOf 22) ∧ (CellOk (But w64 none) b2 (0 + 1) (ve)) ∧ TT ∧ ((Try.prog.info? 99).isSome = true ∧ IdxOk ve (L.getD i.toNat 0)) ∧ (0 < Try.prog.cellsOf 3) ∧ (CellOk (But w64 none) (hdB ve) (hdO ve + (L.getD i.toNat 0).toNat * 2 + 0) (.int .i64 ((E.getD (L.getD i.toNat 0).toNat (0, 0)).1))) ∧ True) hA hD ⟨by exact box_cellC (box_atC H0 none 4 rfl (fun e => by cases e)) 0, by decide +kernel, by exact box_cellC (box_atC H0 none 7 rfl (fun e => by cases e)) 1, tv, ⟨by kernel_rfl, by exact idx_ok (H0.argT hE) (by omega) (by omega)⟩, by decide +kernel, by exact cell_flatC hM0 (i := (L.getD i.toNat 0)) (H0.argT hE) (by omega) (by omega) (0, 0) 0, tv⟩ fun a hA => ?_
     refine m_one 7 ?_; refine q_one 7 [(79, iv ((lastAt m ((E.getD (L.getD i.toNat 0).toNat (0, 0)).1)).getD 0))] [(3, pv b2), (5, pv b6), (7, pv b10), (8, pv b15), (34, vl), (35, iv (L.length : Int)), (36, iv i), (72, (.map (some b13))), (78, iv ((E.getD (L.getD i.toNat 0).toNat (0, 0)).1)), (79, iv ((lastAt m ((E.getD (L.getD i.toNat 0).toNat (0, 0)).1)).getD 0))] ((∀ w', On w66 w' → (Instr.lookup 130 (.map (some b13)) (.int .i64 ((E.getD (L.getD i.toNat 0).toNat (0, 0)).1)) false).run Try.prog w' = .ok (.int .i64 ((lastAt m ((E.getD (L.getD i.toNat 0).toNat (0, 0)).1)).getD 0)) w') ∧ True) hA H ⟨by exact mapN_look H 0 rfl (obj_on H 0 rfl) ⟨by omega, by omega⟩ Try.underlying130 Try.underlying3 (fun w => by kernel_rfl), tv⟩ fun a w67 H hA hG => ?_
     replace hD := hD.below hG
     refine ⟨fun _ => hD, ?_⟩
     refine m_take (n := 1) [8] #[true, true, true, true, true, true, true, true, true, false] [] [(3, pv b2), (5, pv b6), (7, pv b10), (8, pv b15), (34, vl), (35, iv (L.length : Int)), (36, iv i), (72, (.map (some b13))), (78, iv ((E.getD (L.getD i.toNat 0).toNat (0, 0)).1)), (80, iv (((lastAt m ((E.getD (L.getD i.toNat 0).toNat (0, 0)).1)).getD 0) + 1))] ((InR .i64 (((lastAt m ((E.getD (L.getD i.toNat 0).toNat (0, 0)).1)).getD 0) + 1)) ∧ True) hA hD ⟨⟨by omega, by omega⟩, tv⟩ fun a hA => ?_
     refine m_one 9 ?_; refine q_mapUpdateN 9 130 (.tmp 72) (.tmp 78) (.tmp 80) 0 b13 m ((E.getD (L.getD i.toNat 0).toNat (0, 0)).1) (((lastAt m ((E.getD (L.getD i.toNat 0).toNat (0, 0)).1)).getD 0) + 1) [(3, pv b2), (5, pv b6), (7, pv b10), (8, pv b15), (34, vl), (35, iv (L.length : Int)), (36, iv i)] hA H rfl ⟨by omega, by omega⟩ (by (try simp only [List.length_append, List.length_cons, List.length_nil]); omega) Try.underlying130 Try.underlying3 fun a w68 H hA hG => ?_
     replace H : Fr _ _ _ [mapN Try.prog 3 b13 (m ++ [((E.getD (L.getD i.toNat 0).toNat (0, 0)).1, ((lastAt m ((E.getD (L.getD i.toNat 0).toNat (0, 0)).1)).getD 0) + 1)]), .row 3 vb lb, .row 3 va la, .box b10 29 [va, vb], .box b15 130 [(.map (some b13))], .box b6 3 [.int .i64 u], .box b4 29 [vv, vl], .box b2 24 [.int .i64 n, ve]] := H
     refine ⟨fun h => absurd h (by decide), ?_⟩
     refine m_end ?_
     refine hK51 _ _ ?_
     refine q_reg [] [(3, pv b2), (5, pv b6), (7, pv b10), (8, pv b15), (34, vl), (35, iv (L.length : Int)), (36, iv (i + 1))] ((InR .i64 (i + 1)) ∧ TT ∧ True) hA H ⟨⟨by omega, by omega⟩, tv, tv⟩ fun a w69 hA H hG => ?_
     refine ⟨(i + 1, m ++ [((E.getD (L.getD i.toNat 0).toNat (0, 0)).1, ((lastAt m ((E.getD (L.getD i.toNat 0).toNat (0, 0)).1)).getD 0) + 1)], vb, lb), ⟨env_sub _ hA, ⟨_, H⟩, ?_⟩, ?_⟩
     · (try dsimp only); exact ⟨by omega, by omega, by (try simp only [List.length_append, List.length_cons, List.length_nil]); omega, by (try simp only [List.length_append, List.length_cons, List.length_nil]); omega, fun v => by rw [othE_snoc h0 (by omega), if_neg hhb58, if_pos hhb65]; exact cnt_put hm _ v, by rw [hi, leftE_snoc h0 (by omega), if_neg hhb58, if_pos hhb65, List.append_nil]⟩
     (try dsimp only); omega
   have hhb65 := of_decide_eq_false hb65
   refine region_list ?_
   refine q_list 0 3 [(42, vb)] [(3, pv b2), (5, pv b6), (7, pv b10), (8, pv b15), (34, vl), (35, iv (L.length : Int)), (36, iv i), (42, vb), (43, iv (L.getD i.toNat 0))] ((0 < Try.prog.cellsOf 27) ∧ (CellOk (On w64) b10 (0 + 1) (vb)) ∧ TT ∧ True) hA H ⟨by decide +kernel, by exact box_cell H 3 rfl 1, tv, tv⟩ fun a w70 hA H hG => ?_
   refine list_at 3 ?_; refine q_lit 3 44 27 1 #[(0, .tmp 43)] 3 [(0, iv (L.getD i.toNat 0))] [.int .i64 (L.getD i.toNat 0)] [(3, pv b2), (5, pv b6), (7, pv b10), (8, pv b15), (34, vl), (35, iv (L.length : Int)), (36, iv i), (42, vb)] hA H fun b71 a w72 H hA hG hge_b71 => ?_
   clear hge_b71
   refine list_at 4 ?_; refine q_push 4 45 (.tmp 42) (.tmp 44) 2 0 b71 1 1 vb lb [(L.getD i.toNat 0)] [.int .i64 (L.getD i.toNat 0)] [(3, pv b2), (5, pv b6), (7, pv b10), (8, pv b15), (34, vl), (35, iv (L.length : Int)), (36, iv i)] hA H Try.E27 rfl rfl (by exact (RowRd.single (α := Int) rfl)) rfl (by simp only [List.length_cons, List.length_nil, List.length_append]; omega) (by decide) fun v73 a w74 H hA hG => ?_
   replace H : Fr _ _ _ [mapN Try.prog 3 b13 m, .row 3 v73 (lb ++ [(L.getD i.toNat 0)]), .row 3 va la, .box b10 29 [va, vb], .box b15 130 [(.map (some b13))], .box b6 3 [.int .i64 u], .box b4 29 [vv, vl], .box b2 24 [.int .i64 n, ve]] := H.drop 0
   refine q_list 5 1 [] [(3, pv b2), (5, pv b6), (7, pv b10), (8, pv b15), (34, vl), (35, iv (L.length : Int)), (36, iv i), (45, v73), (46, .pointer (some ⟨b10, 0 + 1, none⟩))] ((0 < Try.prog.cellsOf 27) ∧ True) hA H ⟨by decide +kernel, tv⟩ fun a w75 hA H hG => ?_
   refine list_at 6 ?_; refine q_store 6 27 (.tmp 46) (.tmp 45) 3 b10 (0 + 1) 29 [va, vb] [v73] [va, v73] v73 [(3, pv b2), (5, pv b6), (7, pv b10), (8, pv b15), (34, vl), (35, iv (L.length : Int)), (36, iv i)] hA H rfl (one_cells (rd_one (H.out 1 rfl))) (Nat.le_of_ble_eq_true (by kernel_rfl)) rfl (fun v hv => by simp only [List.mem_cons, List.not_mem_nil, or_false] at hv; rcases hv with rfl; exact (rd_one (H.out 1 rfl))) fun a w76 H hA hG => ?_
   replace H : Fr _ _ _ [mapN Try.prog 3 b13 m, .row 3 v73 (lb ++ [(L.getD i.toNat 0)]), .row 3 va la, .box b10 29 [va, v73], .box b15 130 [(.map (some b13))], .box b6 3 [.int .i64 u], .box b4 29 [vv, vl], .box b2 24 [.int .i64 n, ve]] := H
   refine list_end ?_
   refine hK51 _ _ ?_
   refine q_reg [] [(3, pv b2), (5, pv b6), (7, pv b10), (8, pv b15), (34, vl), (35, iv (L.length : Int)), (36, iv (i + 1))] ((InR .i64 (i + 1)) ∧ TT ∧ True) hA H ⟨⟨by omega, by omega⟩, tv, tv⟩ fun a w77 hA H hG => ?_
   refine ⟨(i + 1, m, v73, lb ++ [(L.getD i.toNat 0)]), ⟨env_sub _ hA, ⟨_, H⟩, ?_⟩, ?_⟩
   · (try dsimp only); exact ⟨by omega, by omega, by (try simp only [List.length_append, List.length_cons, List.length_nil]); omega, by (try simp only [List.length_append, List.length_cons, List.length_nil]); omega, fun v => by rw [othE_snoc h0 (by omega), if_neg hhb58, if_neg hhb65, List.append_nil]; exact hm v, by rw [hi, leftE_snoc h0 (by omega), if_neg hhb58, if_neg hhb65]⟩
   (try dsimp only); omega
 have hhb50 := of_decide_eq_false hb50
 refine go_exit 2 ?_
 refine hK42 _ _ ?_
 refine go_seq fun K78 hK78 => ?_
 have hm9 := hm; rw [List.take_of_length_le (by omega)] at hm9 hi
 have hce := cutsE_len n E (butV u V) (leftE E u L)
 have hbv := butV_len u V
 rw [List.take_of_length_le (by omega)] at hv9; rw [hi, hv9] at H
 replace H : Fr _ _ _ [mapN Try.prog 3 b13 m, .row 3 vb (leftE E u L), .row 3 va (butV u V), .box b10 29 [va, vb], .box b15 130 [(.map (some b13))], .box b6 3 [.int .i64 u], .box b4 29 [vv, vl], .box b2 24 [.int .i64 n, ve]] := H
 refine region_list ?_
 refine q_list 0 2 [(83, .agg #[.int .i64 n, ve]), (84, .agg #[va, vb])] [(5, pv b6), (7, pv b10), (8, pv b15), (83, .agg #[.int .i64 n, ve]), (84, .agg #[va, vb])] (((Try.prog.info? 24).isSome = true ∧ RowOk (On w48) b2 (0) (Try.prog.cellsOf 24) #[.int .i64 n, ve]) ∧ ((Try.prog.info? 29).isSome = true ∧ RowOk (On w48) b10 (0) (Try.prog.cellsOf 29) #[va, vb]) ∧ True) hA H ⟨⟨by kernel_rfl, by exact box_row H 7 rfl 0 2⟩, ⟨by kernel_rfl, by exact box_row H 3 rfl 0 2⟩, tv⟩ fun a w79 hA H hG => ?_
 refine list_at 2 ?_; refine q_call 2 85 48 #[.tmp 83, .tmp 84] #[24, 29] [.agg #[.int .i64 n, ve], .agg #[va, vb]] (fun S v_ w' => ∃ p_, v_ = .tuple #[p_, .int .i64 (partE n E (butV u V) (leftE E u L))] ∧ Rd S w' p_ ((cutsE n E (butV u V) (leftE E u L)))) [(5, pv b6), (7, pv b10), (8, pv b15)] hA H (by exact cuts_any n ve E va vb (butV u V) (leftE E u L) H.at (by omega) ((H.arg hE)) ((H.out 2 rfl)) ((H.out 1 rfl))) fun v80 a w81 S hR82 H hA hG => ?_
 obtain ⟨v80p, rfl, hR82p⟩ := hR82
 replace H := H.ro hR82p
 replace H : Fr _ _ _ [.ro v80p (cutsE n E (butV u V) (leftE E u L)), mapN Try.prog 3 b13 m, .row 3 vb (leftE E u L), .row 3 va (butV u V), .box b10 29 [va, vb], .box b15 130 [(.map (some b13))], .box b6 3 [.int .i64 u], .box b4 29 [vv, vl], .box b2 24 [.int .i64 n, ve]] := H
 refine q_list 3 3 [] [(5, pv b6), (7, pv b10), (8, pv b15), (86, v80p), (87, iv (partE n E (butV u V) (leftE E u L)))] (TT ∧ TT ∧ TT ∧ True) hA H ⟨tv, tv, tv, tv⟩ fun a w84 hA H hG => ?_
 refine list_at 6 ?_; refine q_alloc 6 13 27 [(.slice none 0 0)] [(5, pv b6), (7, pv b10), (8, pv b15), (86, v80p), (87, iv (partE n E (butV u V) (leftE E u L)))] hA H fun b85 a w86 H hA hG hge_b85 => ?_
 clear hge_b85
 refine list_at 7 ?_; refine q_store 7 27 (.tmp 13) (.tmp 86) 0 b85 (0) 27 [(.slice none 0 0)] [v80p] [v80p] v80p [(5, pv b6), (7, pv b10), (8, pv b15), (13, pv b85), (87, iv (partE n E (butV u V) (leftE E u L)))] hA H rfl (one_cells (rd_one (H.get 1 rfl))) (Nat.le_of_ble_eq_true (by kernel_rfl)) rfl (fun v hv => by simp only [List.mem_cons, List.not_mem_nil, or_false] at hv; rcases hv with rfl; exact (rd_one (H.get 1 rfl))) fun a w87 H hA hG => ?_
 replace H : Fr _ _ _ [.box b85 27 [v80p], .ro v80p (cutsE n E (butV u V) (leftE E u L)), mapN Try.prog 3 b13 m, .row 3 vb (leftE E u L), .row 3 va (butV u V), .box b10 29 [va, vb], .box b15 130 [(.map (some b13))], .box b6 3 [.int .i64 u], .box b4 29 [vv, vl], .box b2 24 [.int .i64 n, ve]] := H
 refine q_list 8 1 [] [(5, pv b6), (7, pv b10), (8, pv b15), (13, pv b85)] (TT ∧ True) hA H ⟨tv, tv⟩ fun a w88 hA H hG => ?_
 refine list_end ?_
 refine hK78 _ _ ?_
 refine go_seq fun K89 hK89 => ?_
 refine region_list ?_
 refine q_list 0 2 [(89, va)] [(5, pv b6), (8, pv b15), (13, pv b85), (89, va)] ((0 < Try.prog.cellsOf 27) ∧ (CellOk (On w88) b10 (0 + 0) (va)) ∧ True) hA H ⟨by decide +kernel, by exact box_cell H 5 rfl 0, tv⟩ fun a w90 hA H hG => ?_
 refine list_at 2 ?_; refine q_funcN 2 90 114 [.tmp 5, .tmp 8, .tmp 13] [.pointer (some ⟨b6, 0, none⟩), .pointer (some ⟨b15, 0, none⟩), .pointer (some ⟨b85, 0, none⟩)] [(89, va)] hA fun a hA => ?_
 replace H := Fr.order [.box b85 27 [v80p], .ro v80p (cutsE n E (butV u V) (leftE E u L)), mapN Try.prog 3 b13 m, .row 3 vb (leftE E u L), .row 3 va (butV u V), .box b10 29 [va, vb], .box b15 130 [(.map (some b13))], .box b6 3 [.int .i64 u], .box b4 29 [vv, vl], .box b2 24 [.int .i64 n, ve]] [] H [4, 7, 6, 2, 0, 1, 3, 5, 8, 9] (by show List.Perm _ (List.range 10); decide)
 replace H : Fr _ _ _ [.row 3 va (butV u V), .box b6 3 [.int .i64 u], .box b15 130 [(.map (some b13))], mapN Try.prog 3 b13 m, .box b85 27 [v80p], .ro v80p (cutsE n E (butV u V) (leftE E u L)), .row 3 vb (leftE E u L), .box b10 29 [va, vb], .box b4 29 [vv, vl], .box b2 24 [.int .i64 n, ve]] := H
 refine list_at 3 ?_; refine q_any 3 91 113 #[.tmp 89, .tmp 90] #[27, 126] [va, .func (.func 114) #[] #[.pointer (some ⟨b6, 0, none⟩), .pointer (some ⟨b15, 0, none⟩), .pointer (some ⟨b85, 0, none⟩)]] _ [] hA (delrow_any 114 [.pointer (some ⟨b6, 0, none⟩), .pointer (some ⟨b15, 0, none⟩), .pointer (some ⟨b85, 0, none⟩)] (fun x => besideB n E V L u x) va (butV u V) o _ [.box b6 3 [.int .i64 u], .box b15 130 [(.map (some b13))], mapN Try.prog 3 b13 m, .box b85 27 [v80p], .ro v80p (cutsE n E (butV u V) (leftE E u L)), .row 3 vb (leftE E u L), .box b10 29 [va, vb], .box b4 29 [vv, vl], .box b2 24 [.int .i64 n, ve]] _ H (by omega) (fun x hx => hwv x (List.mem_filter.1 hx).1) callable_of (fun x w' S' l' hx H' => (bclos_any b6 b15 b13 b85 u m v80p (cutsE n E (butV u V) (leftE E u L)) x o S' (.row 3 va l' :: [.row 3 vb (leftE E u L), .box b10 29 [va, vb], .box b4 29 [vv, vl], .box b2 24 [.int .i64 n, ve]]) w' (H'.sink 1 5) hx (by omega)).mono fun e w2 ⟨q, he, hq, S2, H2⟩ => ⟨q, he, by rw [hq, beside_ok hm9], S2, H2.sink 5 1⟩)) fun v91 a w92 hR93 hA => ?_
 obtain ⟨S, H⟩ := hR93
 replace H : Fr _ _ _ [.row 3 v91 ((butV u V).filter (fun x => !(fun x => besideB n E V L u x) x)), .box b6 3 [.int .i64 u], .box b15 130 [(.map (some b13))], mapN Try.prog 3 b13 m, .box b85 27 [v80p], .ro v80p (cutsE n E (butV u V) (leftE E u L)), .row 3 vb (leftE E u L), .box b10 29 [va, vb], .box b4 29 [vv, vl], .box b2 24 [.int .i64 n, ve]] := H
 refine q_list 4 1 [] [(6, v91)] (TT ∧ True) hA H ⟨tv, tv⟩ fun a w94 hA H hG => ?_
 refine list_end ?_
 refine hK89 _ _ ?_
 refine go_ret_ ?_
 refine ret_one 6 v91 hA ?_
 exact ⟨_, rfl, H.give 0 rfl, H.below⟩
theorem drop_roundD {α : Type} {l : List α} {i : Int} (d : α) (h0 : 0 ≤ i) (h : i < (l.length : Int)) : l.drop i.toNat = l.getD i.toNat d :: l.drop (i + 1).toNat := by
 have hi : i.toNat < l.length := by omega
 rw [List.drop_eq_getElem_cons hi, List.getD_eq_getElem?_getD, List.getElem?_eq_getElem hi, show (i + 1).toNat = i.toNat + 1 by omega]
 rfl
def willB (l : List Lk) (k : Int) : Bool := decide (2 ≤ k) && decide (2 ≤ (l.length : Int) - k)
def besK (l : List Lk) (u : Int) : List Int := besideE (wholeR l).1.1.1 (wholeR l).1.1.2 (wholeR l).1.2.1 (wholeR l).1.2.2 u
def candC (l : List Lk) (u v : Int) (cs : List (List Int)) : List (Int × Int × List Int) := (cs.filter fun c => willB l (c.length : Int)).map fun c => (u, v, c)
def candV (l : List Lk) (u : Int) (vs : List Int) : List (Int × Int × List Int) := vs.flatMap fun v => candC l u v (classesL l u v)
def candU (l : List Lk) (us : List Int) : List (Int × Int × List Int) := us.flatMap fun u => candV l u (besK l u)
def firstK (l : List Lk) : Option (Int × Int × List Int) := if rightK l = true ∧ ringsB l = false then (candU l (wholeR l).1.2.1).head? else none
def firstD (l : List Lk) : Int × Int × List Int := (firstK l).getD (0, (0, []))
theorem candC_yes {l : List Lk} {u v : Int} {c : List Int} {cs : List (List Int)} (h : willB l (c.length : Int) = true) : candC l u v (c :: cs) = (u, v, c) :: candC l u v cs := by
 unfold candC; rw [List.filter_cons, if_pos h]; rfl
theorem candC_no {l : List Lk} {u v : Int} {c : List Int} {cs : List (List Int)} (h : willB l (c.length : Int) = false) : candC l u v (c :: cs) = candC l u v cs := by
 unfold candC; rw [List.filter_cons, if_neg (by rw [h]; decide)]
theorem candV_cons {l : List Lk} {u v : Int} {vs : List Int} : candV l u (v :: vs) = candC l u v (classesL l u v) ++ candV l u vs := by unfold candV; rw [List.flatMap_cons]
theorem candU_cons {l : List Lk} {u : Int} {us : List Int} : candU l (u :: us) = candV l u (besK l u) ++ candU l us := by unfold candU; rw [List.flatMap_cons]
theorem first_start {l : List Lk} (h1 : rightK l = true) (h2 : ringsB l = false) : (candU l ((wholeR l).1.2.1.drop (0 : Int).toNat)).head? = firstK l := by unfold firstK; rw [if_pos ⟨h1, h2⟩]; rfl
theorem first_u {l : List Lk} {V : List Int} {i : Int} {X : Option (Int × Int × List Int)} (h : (candU l (V.drop i.toNat)).head? = X) (h0 : 0 ≤ i) (h1 : i < (V.length : Int)) :
   (candV l (V.getD i.toNat 0) ((besK l (V.getD i.toNat 0)).drop (0 : Int).toNat) ++ candU l (V.drop (i + 1).toNat)).head? = X := by
 rw [drop_roundD 0 h0 h1, candU_cons] at h; exact h
theorem first_v {l : List Lk} {B : List Int} {j u : Int} {r : List (Int × Int × List Int)} {X : Option (Int × Int × List Int)} (h : (candV l u (B.drop j.toNat) ++ r).head? = X) (h0 : 0 ≤ j) (h1 : j < (B.length : Int)) :
   (candC l u (B.getD j.toNat 0) ((classesL l u (B.getD j.toNat 0)).drop (0 : Int).toNat) ++ (candV l u (B.drop (j + 1).toNat) ++ r)).head? = X := by
 rw [drop_roundD 0 h0 h1, candV_cons, List.append_assoc] at h; exact h
theorem first_c {l : List Lk} {C : List (List Int)} {k u v : Int} {r : List (Int × Int × List Int)} {X : Option (Int × Int × List Int)} (h : (candC l u v (C.drop k.toNat) ++ r).head? = X) (h0 : 0 ≤ k) (h1 : k < (C.length : Int)) (hn : willB l ((C.getD k.toNat []).length : Int) = false) :
   (candC l u v (C.drop (k + 1).toNat) ++ r).head? = X := by
 rw [drop_roundD [] h0 h1, candC_no hn] at h; exact h
theorem first_hit {l : List Lk} {C : List (List Int)} {k u v : Int} {r : List (Int × Int × List Int)} {X : Option (Int × Int × List Int)} (h : (candC l u v (C.drop k.toNat) ++ r).head? = X) (h0 : 0 ≤ k) (h1 : k < (C.length : Int)) (hn : willB l ((C.getD k.toNat []).length : Int) = true) :
   X = some (u, v, C.getD k.toNat []) := by
 rw [drop_roundD [] h0 h1, candC_yes hn] at h; exact h.symm
theorem first_cend {l : List Lk} {C : List (List Int)} {k u v : Int} {r : List (Int × Int × List Int)} {X : Option (Int × Int × List Int)} (h : (candC l u v (C.drop k.toNat) ++ r).head? = X) (h1 : (C.length : Int) ≤ k) : r.head? = X := by
 rw [List.drop_of_length_le (by omega)] at h; exact h
theorem first_vend {l : List Lk} {B : List Int} {j u : Int} {r : List (Int × Int × List Int)} {X : Option (Int × Int × List Int)} (h : (candV l u (B.drop j.toNat) ++ r).head? = X) (h1 : (B.length : Int) ≤ j) : r.head? = X := by
 rw [List.drop_of_length_le (by omega)] at h; exact h
theorem first_uend {l : List Lk} {V : List Int} {i : Int} {X : Option (Int × Int × List Int)} (h : (candU l (V.drop i.toNat)).head? = X) (h1 : (V.length : Int) ≤ i) : X = none := by
 rw [List.drop_of_length_le (by omega)] at h; exact h.symm
theorem first_no {l : List Lk} (h : ((wholeR l).2 = false ∨ solidB (wholeR l).1.1.1 (wholeR l).1.1.2 (wholeR l).1.2.1 (wholeR l).1.2.2 = false) ∨ ringsB l = true) : firstK l = none := by
 unfold firstK
 refine if_neg fun q => ?_
 obtain ⟨q1, q2⟩ := q
 unfold rightK at q1
 rw [Bool.and_eq_true] at q1
 rcases h with (h | h) | h
 · rw [q1.1] at h; cases h
 · rw [q1.2] at h; cases h
 rw [q2] at h; cases h
theorem first_giv {l : List Lk} {S : Stab} {w : World} {sd : Value} {x : Int × Int × List Int} (hf : firstK l = some x) (h : Rd S w sd x.2.2) : ∃ sd', (Value.tuple #[.agg #[.int .i64 x.1, .int .i64 x.2.1, sd], .bool true]) = .tuple #[.agg #[.int .i64 (firstD l).1, .int .i64 (firstD l).2.1, sd'], .bool (firstK l).isSome] ∧ Rd S w sd' (firstD l).2.2 := by
 unfold firstD; rw [hf]; exact ⟨sd, rfl, h⟩
theorem first_nil {l : List Lk} {S : Stab} {w : World} (hf : firstK l = none) : ∃ sd', (Value.tuple #[.agg #[.int .i64 0, .int .i64 0, .slice none 0 0], .bool false]) = .tuple #[.agg #[.int .i64 (firstD l).1, .int .i64 (firstD l).2.1, sd'], .bool (firstK l).isSome] ∧ Rd S w sd' (firstD l).2.2 := by
 unfold firstD; rw [hf]; exact ⟨_, rfl, rd_nil⟩
structure WhF (l : List Lk) : Prop where
 wh : okWh l
 part : partE (wholeR l).1.1.1 (wholeR l).1.1.2 (wholeR l).1.2.1 (wholeR l).1.2.2 = 0
 vb : ∀ x ∈ (wholeR l).1.2.1, 0 ≤ x ∧ x < 1024
 lb : ∀ j, j < (wholeR l).1.2.2.length → 0 ≤ (wholeR l).1.2.2.getD j 0 ∧ (wholeR l).1.2.2.getD j 0 < ((wholeR l).1.1.2.length : Int)
 eb : ∀ j, j < (wholeR l).1.1.2.length → wfI ((wholeR l).1.1.2.getD j (0, 0)).1 ∧ wfI ((wholeR l).1.1.2.getD j (0, 0)).2
 vl : (wholeR l).1.2.1.length ≤ 1024
 ll : (wholeR l).1.2.2.length ≤ 1024
theorem whole_facts {l : List Lk} (h1 : (wholeR l).2 = true) (h2 : solidB (wholeR l).1.1.1 (wholeR l).1.1.2 (wholeR l).1.2.1 (wholeR l).1.2.2 = true) : WhF l := by
 have hw : okWh l := Classical.byContradiction fun q => by unfold wholeR at h1; rw [if_neg q] at h1; cases h1
 have hp : partE (wholeR l).1.1.1 (wholeR l).1.1.2 (wholeR l).1.2.1 (wholeR l).1.2.2 = 0 := by
   unfold solidB at h2; simp only [Bool.and_eq_true, decide_eq_true_eq] at h2; exact h2.1.1
 obtain ⟨p1, p2, p3, p4⟩ := part_iff.1 hp
 obtain ⟨q1, q2, q3, q4⟩ := rightE_0 p1
 have r1 := rises_len p2 q1
 have r2 := rises_len p3 (by omega)
 refine ⟨hw, hp, fun x hx => ?_, fun j hj => ?_, fun j hj => ?_, by omega, by omega⟩
 · have := (rises_iff.1 p2).2 x hx; omega
 · have := p3 j hj; exact ⟨this.1, this.2.1⟩
 have := q4 j hj; unfold okE at this; unfold wfI; omega
theorem besK_sub {l : List Lk} {u v : Int} (h : v ∈ besK l u) : v ∈ (wholeR l).1.2.1 := (List.mem_filter.1 (List.mem_filter.1 h).1).1
theorem besK_len (l : List Lk) (u : Int) : (besK l u).length ≤ (wholeR l).1.2.1.length := Nat.le_trans (List.length_filter_le _ _) (List.length_filter_le _ _)
theorem classes_len (l : List Lk) (u v : Int) : (classesL l u v).length ≤ l.length := by
 unfold classesL groupsR
 rw [List.length_map]
 have h1 : (rootsTo (clR u v l) (l.length : Int)).length ≤ (upto (l.length : Int)).length := List.length_filter_le _ _
 have h2 := upto_len (l.length : Int)
 omega
theorem class_len {l : List Lk} {u v : Int} {c : List Int} (h : c ∈ classesL l u v) : c.length ≤ l.length := by
 unfold classesL groupsR at h
 obtain ⟨r, _, rfl⟩ := List.mem_map.1 h
 have h1 : ((upto (l.length : Int)).filter fun j => decide (clR u v l j = r)).length ≤ (upto (l.length : Int)).length := List.length_filter_le _ _
 have h2 := upto_len (l.length : Int)
 omega
def kindK (l : List Lk) : Int := if rightK l = false then 0 else if l.length = 1 then 0 else if ringsB l = true then 1 else if (vertsL l).length = 2 then 2 else if (firstK l).isSome = true then 4 else 3
theorem first_any (vl : Value) (l : List (Int × Int × Int)) (o : Orig) (hL : Rd (· < o.w.heap.size) o.w vl l) (hs : l.length ≤ 100000) (hwf : WfL l) :
 Calls Try.prog 65 [vl].toArray o.w (Giv o (fun S v w' => ∃ sd, v = .tuple #[.agg #[.int .i64 (firstD l).1, .int .i64 (firstD l).2.1, sd], .bool (firstK l).isSome] ∧ Rd S w' sd (firstD l).2.2)) := by
 have hwb := whole_bd l
 have hwc := whole_len (l := l) (by omega)
 refine enter Try.f65 69 Try.func65 fun a hA => ?_
 replace hA := env_sub [(0, vl)] hA
 have H := Fr.start o
 refine go_seq fun K1 hK1 => ?_
 refine region_list ?_
 refine list_at 0 ?_; refine q_alloc 0 2 81 [.int .i64 0, .int .i64 0, (.slice none 0 0)] [(0, vl)] hA H fun b2 a w3 H hA hG hge_b2 => ?_
 clear hge_b2
 refine q_list 1 1 [] [(0, vl), (2, pv b2)] (TT ∧ True) hA H ⟨tv, tv⟩ fun a w4 hA H hG => ?_
 refine list_end ?_
 refine hK1 _ _ ?_
 refine go_seq fun K5 hK5 => ?_
 refine region_list ?_
 refine q_list 0 1 [] [(0, vl), (2, pv b2), (14, vl)] (TT ∧ True) hA H ⟨tv, tv⟩ fun a w6 hA H hG => ?_
 refine list_at 1 ?_; refine q_call 1 15 87 #[.tmp 14] #[69] [vl] _ [(0, vl), (2, pv b2)] hA H (by exact pwhole_any vl l H.at ((H.arg hL)) (by omega) hwf) fun v7 a w8 S hR9 H hA hG => ?_
 obtain ⟨v7g, v7p, rfl, hR9g, hR9p⟩ := hR9
 obtain ⟨v7e, rfl, hR9e⟩ := gp_rd hR9g; obtain ⟨v7a, v7b, rfl, hR9a, hR9b⟩ := two_rd hR9p
 replace H := H.ro hR9e; replace H := H.ro hR9a; replace H := H.ro hR9b
 replace H : Fr _ _ _ [.ro v7b ((wholeR l).1.2.2), .ro v7a ((wholeR l).1.2.1), .ro v7e ((wholeR l).1.1.2), .box b2 81 [.int .i64 0, .int .i64 0, (.slice none 0 0)]] := H
 refine q_list 2 4 [] [(0, vl), (2, pv b2), (16, .agg #[.int .i64 ((wholeR l).1.1.1), v7e]), (17, .agg #[v7a, v7b]), (18, .bool ((wholeR l).2))] (TT ∧ TT ∧ TT ∧ TT ∧ True) hA H ⟨tv, tv, tv, tv, tv⟩ fun a w13 hA H hG => ?_
 refine list_at 6 ?_; refine q_alloc 6 4 24 [.int .i64 0, (.slice none 0 0)] [(0, vl), (2, pv b2), (16, .agg #[.int .i64 ((wholeR l).1.1.1), v7e]), (17, .agg #[v7a, v7b]), (18, .bool ((wholeR l).2))] hA H fun b14 a w15 H hA hG hge_b14 => ?_
 clear hge_b14
 refine list_at 7 ?_; refine q_alloc 7 5 29 [(.slice none 0 0), (.slice none 0 0)] [(0, vl), (2, pv b2), (4, pv b14), (16, .agg #[.int .i64 ((wholeR l).1.1.1), v7e]), (17, .agg #[v7a, v7b]), (18, .bool ((wholeR l).2))] hA H fun b16 a w17 H hA hG hge_b16 => ?_
 clear hge_b16
 refine list_at 8 ?_; refine q_store 8 24 (.tmp 4) (.tmp 16) 1 b14 (0) 24 [.int .i64 0, (.slice none 0 0)] [.int .i64 ((wholeR l).1.1.1), v7e] [.int .i64 ((wholeR l).1.1.1), v7e] (.agg #[.int .i64 ((wholeR l).1.1.1), v7e]) [(0, vl), (2, pv b2), (4, pv b14), (5, pv b16), (17, .agg #[v7a, v7b]), (18, .bool ((wholeR l).2))] hA H rfl rfl (Nat.le_of_ble_eq_true (by kernel_rfl)) rfl (fun v hv => by simp only [List.mem_cons, List.not_mem_nil, or_false] at hv; rcases hv with rfl | rfl; exact rfl; exact (rd_one (H.get 4 rfl))) fun a w18 H hA hG => ?_
 replace H : Fr _ _ _ [.box b16 29 [(.slice none 0 0), (.slice none 0 0)], .box b14 24 [.int .i64 ((wholeR l).1.1.1), v7e], .ro v7b ((wholeR l).1.2.2), .ro v7a ((wholeR l).1.2.1), .ro v7e ((wholeR l).1.1.2), .box b2 81 [.int .i64 0, .int .i64 0, (.slice none 0 0)]] := H
 refine list_at 9 ?_; refine q_store 9 29 (.tmp 5) (.tmp 17) 0 b16 (0) 29 [(.slice none 0 0), (.slice none 0 0)] [v7a, v7b] [v7a, v7b] (.agg #[v7a, v7b]) [(0, vl), (2, pv b2), (4, pv b14), (5, pv b16), (18, .bool ((wholeR l).2))] hA H rfl rfl (Nat.le_of_ble_eq_true (by kernel_rfl)) rfl (fun v hv => by simp only [List.mem_cons, List.not_mem_nil, or_false] at hv; rcases hv with rfl | rfl; exact (rd_one (H.get 3 rfl)); exact (rd_one (H.get 2 rfl))) fun a w19 H hA hG => ?_
 replace H : Fr _ _ _ [.box b16 29 [v7a, v7b], .box b14 24 [.int .i64 ((wholeR l).1.1.1), v7e], .ro v7b ((wholeR l).1.2.2), .ro v7a ((wholeR l).1.2.1), .ro v7e ((wholeR l).1.1.2), .box b2 81 [.int .i64 0, .int .i64 0, (.slice none 0 0)]] := H
 refine q_list 10 1 [] [(0, vl), (2, pv b2), (4, pv b14), (5, pv b16), (6, .bool ((wholeR l).2))] (TT ∧ True) hA H ⟨tv, tv⟩ fun a w20 hA H hG => ?_
 refine list_end ?_
 refine hK5 _ _ ?_
 refine go_seq fun K21 hK21 => ?_
 refine go_seq fun K22 hK22 => ?_
 refine q_reg [(22, .agg #[.int .i64 ((wholeR l).1.1.1), v7e]), (23, .agg #[v7a, v7b]), (24, .bool (solidB ((wholeR l).1.1.1) ((wholeR l).1.1.2) ((wholeR l).1.2.1) ((wholeR l).1.2.2))), (29, .bool (ringsB l))] [(0, vl), (2, pv b2), (4, pv b14), (5, pv b16), (30, .bool (((!((wholeR l).2)) || (!(solidB ((wholeR l).1.1.1) ((wholeR l).1.1.2) ((wholeR l).1.2.1) ((wholeR l).1.2.2)))) || (ringsB l)))] (TT ∧ TT ∧ TT ∧ ((!((wholeR l).2)) = false → (Try.prog.info? 24).isSome = true ∧ RowOk (On w20) b14 (0) (Try.prog.cellsOf 24) #[.int .i64 ((wholeR l).1.1.1), v7e]) ∧ ((!((wholeR l).2)) = false → (Try.prog.info? 29).isSome = true ∧ RowOk (On w20) b16 (0) (Try.prog.cellsOf 29) #[v7a, v7b]) ∧ ((!((wholeR l).2)) = false → Callable Try.prog 50 ∧ CallOk Try.prog (On w20) 50 [.agg #[.int .i64 ((wholeR l).1.1.1), v7e], .agg #[v7a, v7b]].toArray (.bool (solidB ((wholeR l).1.1.1) ((wholeR l).1.1.2) ((wholeR l).1.2.1) ((wholeR l).1.2.2)))) ∧ ((!((wholeR l).2)) = false → True) ∧ TT ∧ TT ∧ (((!((wholeR l).2)) || (!(solidB ((wholeR l).1.1.1) ((wholeR l).1.1.2) ((wholeR l).1.2.1) ((wholeR l).1.2.2)))) = false → True) ∧ (((!((wholeR l).2)) || (!(solidB ((wholeR l).1.1.1) ((wholeR l).1.1.2) ((wholeR l).1.2.1) ((wholeR l).1.2.2)))) = false → Callable Try.prog 90 ∧ CallOk Try.prog (On w20) 90 [vl].toArray (.bool (ringsB l))) ∧ TT ∧ True) hA H ⟨tv, tv, tv, fun _ => ⟨by kernel_rfl, by exact box_row H 1 rfl 0 2⟩, fun _ => ⟨by kernel_rfl, by exact box_row H 0 rfl 0 2⟩, fun hg0 => by replace hg0 := (nF hg0); exact ⟨callable_of, callOk_of fun w hw => by exact solid_any ((wholeR l).1.1.1) v7e ((wholeR l).1.1.2) v7a v7b ((wholeR l).1.2.1) ((wholeR l).1.2.2) w (by omega) (((H.on hw).get 4 rfl)) (((H.on hw).get 3 rfl)) (((H.on hw).get 2 rfl))⟩, fun _ => tv, tv, tv, fun _ => tv, fun hg0 => by replace hg0 := (⟨(nF ((oF hg0).1)), (nF ((oF hg0).2))⟩ : _ ∧ _); exact ⟨callable_of, callOk_of fun w hw => by exact rings_any vl l w (((H.on hw).arg hL)) (by omega) hwf⟩, tv, tv⟩ fun a w23 hA H hG => ?_
 refine hK22 _ _ ?_
 refine go_cond hA (.tmp 30) (((!((wholeR l).2)) || (!(solidB ((wholeR l).1.1.1) ((wholeR l).1.1.2) ((wholeR l).1.2.1) ((wholeR l).1.2.2)))) || (ringsB l)) (fun hb24 => ?_) (fun hb24 => ?_)
 · have hhb24 := (oT hb24).imp (fun h => (oT h).imp (fun h => (nT h)) (fun h => (nT h))) (fun h => h)
   refine go_seq fun K25 hK25 => ?_
   refine region_list ?_
   refine q_list 0 1 [(31, .agg #[.int .i64 0, .int .i64 0, (.slice none 0 0)])] [(2, pv b2), (31, .agg #[.int .i64 0, .int .i64 0, (.slice none 0 0)])] ((∀ w, (Instr.build 81 #[]).run Try.prog w = .ok (.agg #[.int .i64 0, .int .i64 0, (.slice none 0 0)]) w) ∧ True) hA H ⟨fun w => by kernel_rfl, tv⟩ fun a w26 hA H hG => ?_
   refine list_at 1 ?_; refine q_store 1 81 (.tmp 2) (.tmp 31) 5 b2 (0) 81 [.int .i64 0, .int .i64 0, (.slice none 0 0)] [.int .i64 0, .int .i64 0, (.slice none 0 0)] [.int .i64 0, .int .i64 0, (.slice none 0 0)] (.agg #[.int .i64 0, .int .i64 0, (.slice none 0 0)]) [(2, pv b2)] hA H rfl rfl (Nat.le_of_ble_eq_true (by kernel_rfl)) rfl (fun v hv => by simp only [List.mem_cons, List.not_mem_nil, or_false] at hv; rcases hv with rfl | rfl | rfl; exact rfl; exact rfl; exact rfl) fun a w27 H hA hG => ?_
   replace H : Fr _ _ _ [.box b16 29 [v7a, v7b], .box b14 24 [.int .i64 ((wholeR l).1.1.1), v7e], .ro v7b ((wholeR l).1.2.2), .ro v7a ((wholeR l).1.2.1), .ro v7e ((wholeR l).1.1.2), .box b2 81 [.int .i64 0, .int .i64 0, (.slice none 0 0)]] := H
   refine q_list 2 1 [] [(2, pv b2), (3, .bool false)] (TT ∧ True) hA H ⟨tv, tv⟩ fun a w28 hA H hG => ?_
   refine list_end ?_
   refine hK25 _ _ ?_
   refine go_ret_ ?_
   refine ret_cell2 2 3 81 5 b2 81 [.int .i64 0, .int .i64 0, (.slice none 0 0)] #[.int .i64 0, .int .i64 0, (.slice none 0 0)] (.bool false) hA H rfl ?_ (ht := ⟨_, Try.underlying81⟩)
   exact ⟨_, rfl, first_nil (first_no hhb24), H.below⟩
 have hhb24 := (⟨(⟨(nF ((oF ((oF hb24).1)).1)), (nF ((oF ((oF hb24).1)).2))⟩ : _ ∧ _), (oF hb24).2⟩ : _ ∧ _)
 refine go_skip ?_
 refine hK21 _ _ ?_
 refine go_seq fun K29 hK29 => ?_
 refine go_seq fun K30 hK30 => ?_
 have hW := whole_facts hhb24.1.1 hhb24.1.2
 have hrk : rightK l = true := by unfold rightK; rw [hhb24.1.1, hhb24.1.2]; rfl
 have hrg : ringsB l = false := hhb24.2
 have hvl := hW.vl; have hll := hW.ll
 refine q_reg [(33, v7a), (34, iv (((wholeR l).1.2.1).length : Int))] [(0, vl), (2, pv b2), (4, pv b14), (5, pv b16), (33, v7a), (34, iv (((wholeR l).1.2.1).length : Int)), (35, iv 0)] ((0 < Try.prog.cellsOf 27) ∧ (CellOk (On w23) b16 (0 + 0) (v7a)) ∧ (LenOk v7a (((wholeR l).1.2.1).length : Int)) ∧ TT ∧ True) hA H ⟨by decide +kernel, by exact box_cell H 0 rfl 0, by exact len_ok (H.get 3 rfl), tv, tv⟩ fun a w31 hA H hG => ?_
 refine hK30 _ _ ?_
 refine go_block 0 ?_
 refine go_loop_ (Int) (fun x_ a W => (fun (i : Int) => EnvOk 69 a (keepEnv [(0, vl), (2, pv b2), (4, pv b14), (5, pv b16), (33, v7a), (34, iv (((wholeR l).1.2.1).length : Int)), (35, iv i)]) ∧ (∃ S, Fr o W S [.box b16 29 [v7a, v7b], .box b14 24 [.int .i64 ((wholeR l).1.1.1), v7e], .ro v7b ((wholeR l).1.2.2), .ro v7a ((wholeR l).1.2.1), .ro v7e ((wholeR l).1.1.2), .box b2 81 [.int .i64 0, .int .i64 0, (.slice none 0 0)]]) ∧ 0 ≤ i ∧ i ≤ ((wholeR l).1.2.1.length : Int) ∧ (candU l ((wholeR l).1.2.1.drop i.toNat)).head? = firstK l) x_) (fun x_ => (fun (i : Int) => (((wholeR l).1.2.1.length : Int) - i).toNat) x_) (0) ?_ (fun i a w33 hI => ?_)
 · (try dsimp only); exact ⟨env_sub _ hA, ⟨_, H⟩, by omega, by omega, first_start hrk hrg⟩
 obtain ⟨hA, ⟨S, H⟩, h0, h0b, hi⟩ := hI
 try dsimp only at h0 h0b hi
 refine go_seq fun K34 hK34 => ?_
 refine q_reg [] [(0, vl), (2, pv b2), (4, pv b14), (5, pv b16), (33, v7a), (34, iv (((wholeR l).1.2.1).length : Int)), (35, iv i), (36, .bool (decide (i < (((wholeR l).1.2.1).length : Int))))] (TT ∧ True) hA H ⟨tv, tv⟩ fun a w35 hA H hG => ?_
 refine hK34 _ _ ?_
 refine go_seq fun K36 hK36 => ?_
 refine go_cond hA (.tmp 36) (decide (i < (((wholeR l).1.2.1).length : Int))) (fun hb37 => ?_) (fun hb37 => ?_)
 · have hhb37 := of_decide_eq_true hb37
   refine go_skip ?_
   refine hK36 _ _ ?_
   refine go_seq fun K38 hK38 => ?_
   refine go_block 1 ?_
   refine go_seq fun K39 hK39 => ?_
   have hu9 := hW.vb _ (getD_mem (l := (wholeR l).1.2.1) (i := i.toNat) (d := 0) (by omega))
   have hbl := besK_len l ((wholeR l).1.2.1.getD i.toNat 0)
   refine q_reg [(38, iv (((wholeR l).1.2.1).getD i.toNat 0))] [(0, vl), (2, pv b2), (4, pv b14), (5, pv b16), (8, iv (((wholeR l).1.2.1).getD i.toNat 0)), (33, v7a), (34, iv (((wholeR l).1.2.1).length : Int)), (35, iv i)] (((Try.prog.info? 3).isSome = true ∧ IdxOk v7a i) ∧ (CellOk (On w35) (hdB v7a) (hdO v7a + i.toNat * 1) (.int .i64 (((wholeR l).1.2.1).getD i.toNat 0))) ∧ TT ∧ True) hA H ⟨⟨by kernel_rfl, by exact idx_ok (H.get 3 rfl) (by omega) (by omega)⟩, by exact cell_flat (i := i) (H.get 3 rfl) (by omega) (by omega) 0 0, tv, tv⟩ fun a w40 hA H hG => ?_
   refine hK39 _ _ ?_
   refine go_seq fun K41 hK41 => ?_
   refine region_list ?_
   refine q_list 0 3 [(39, .agg #[.int .i64 ((wholeR l).1.1.1), v7e]), (40, .agg #[v7a, v7b])] [(0, vl), (2, pv b2), (4, pv b14), (5, pv b16), (8, iv (((wholeR l).1.2.1).getD i.toNat 0)), (33, v7a), (34, iv (((wholeR l).1.2.1).length : Int)), (35, iv i), (39, .agg #[.int .i64 ((wholeR l).1.1.1), v7e]), (40, .agg #[v7a, v7b]), (41, iv (((wholeR l).1.2.1).getD i.toNat 0))] (((Try.prog.info? 24).isSome = true ∧ RowOk (On w40) b14 (0) (Try.prog.cellsOf 24) #[.int .i64 ((wholeR l).1.1.1), v7e]) ∧ ((Try.prog.info? 29).isSome = true ∧ RowOk (On w40) b16 (0) (Try.prog.cellsOf 29) #[v7a, v7b]) ∧ TT ∧ True) hA H ⟨⟨by kernel_rfl, by exact box_row H 1 rfl 0 2⟩, ⟨by kernel_rfl, by exact box_row H 0 rfl 0 2⟩, tv, tv⟩ fun a w42 hA H hG => ?_
   refine list_at 3 ?_; refine q_call 3 42 91 #[.tmp 39, .tmp 40, .tmp 41] #[24, 29, 3] [.agg #[.int .i64 ((wholeR l).1.1.1), v7e], .agg #[v7a, v7b], .int .i64 (((wholeR l).1.2.1).getD i.toNat 0)] (fun S v_ w' => Rd S w' v_ ((besK l (((wholeR l).1.2.1).getD i.toNat 0)))) [(0, vl), (2, pv b2), (4, pv b14), (5, pv b16), (8, iv (((wholeR l).1.2.1).getD i.toNat 0)), (33, v7a), (34, iv (((wholeR l).1.2.1).length : Int)), (35, iv i)] hA H (by exact beside_any ((wholeR l).1.1.1) v7e ((wholeR l).1.1.2) v7a v7b ((wholeR l).1.2.1) ((wholeR l).1.2.2) (((wholeR l).1.2.1).getD i.toNat 0) H.at (by omega) ((H.get 4 rfl)) ((H.get 3 rfl)) ((H.get 2 rfl)) (by unfold wfI; omega) (fun x hx => by have := hW.vb x hx; unfold wfI; omega) hW.lb hW.eb (by omega) (by omega)) fun v43 a w44 S hR45 H hA hG => ?_
   replace H := H.ro hR45
   refine q_list 4 2 [(43, iv ((besK l (((wholeR l).1.2.1).getD i.toNat 0)).length : Int))] [(0, vl), (2, pv b2), (4, pv b14), (5, pv b16), (8, iv (((wholeR l).1.2.1).getD i.toNat 0)), (33, v7a), (34, iv (((wholeR l).1.2.1).length : Int)), (35, iv i), (42, v43), (43, iv ((besK l (((wholeR l).1.2.1).getD i.toNat 0)).length : Int)), (44, iv 0)] ((LenOk v43 ((besK l (((wholeR l).1.2.1).getD i.toNat 0)).length : Int)) ∧ TT ∧ True) hA H ⟨by exact len_ok (H.get 0 rfl), tv, tv⟩ fun a w47 hA H hG => ?_
   refine list_end ?_
   refine hK41 _ _ ?_
   refine go_block 2 ?_
   refine go_loop_ (Int) (fun x_ a W => (fun (j : Int) => EnvOk 69 a (keepEnv [(0, vl), (2, pv b2), (4, pv b14), (5, pv b16), (8, iv (((wholeR l).1.2.1).getD i.toNat 0)), (33, v7a), (34, iv (((wholeR l).1.2.1).length : Int)), (35, iv i), (42, v43), (43, iv ((besK l (((wholeR l).1.2.1).getD i.toNat 0)).length : Int)), (44, iv j)]) ∧ (∃ S, Fr o W S [.ro v43 (besK l (((wholeR l).1.2.1).getD i.toNat 0)), .box b16 29 [v7a, v7b], .box b14 24 [.int .i64 ((wholeR l).1.1.1), v7e], .ro v7b ((wholeR l).1.2.2), .ro v7a ((wholeR l).1.2.1), .ro v7e ((wholeR l).1.1.2), .box b2 81 [.int .i64 0, .int .i64 0, (.slice none 0 0)]]) ∧ 0 ≤ j ∧ j ≤ ((besK l ((wholeR l).1.2.1.getD i.toNat 0)).length : Int) ∧ (candV l ((wholeR l).1.2.1.getD i.toNat 0) ((besK l ((wholeR l).1.2.1.getD i.toNat 0)).drop j.toNat) ++ candU l ((wholeR l).1.2.1.drop (i + 1).toNat)).head? = firstK l) x_) (fun x_ => (fun (j : Int) => (((besK l ((wholeR l).1.2.1.getD i.toNat 0)).length : Int) - j).toNat) x_) (0) ?_ (fun j a w49 hI => ?_)
   · (try dsimp only); exact ⟨env_sub _ hA, ⟨_, H⟩, by omega, by omega, first_u hi h0 (by omega)⟩
   obtain ⟨hA, ⟨S, H⟩, j0, j0b, hj⟩ := hI
   try dsimp only at j0 j0b hj
   refine go_seq fun K50 hK50 => ?_
   refine q_reg [] [(0, vl), (2, pv b2), (4, pv b14), (5, pv b16), (8, iv (((wholeR l).1.2.1).getD i.toNat 0)), (33, v7a), (34, iv (((wholeR l).1.2.1).length : Int)), (35, iv i), (42, v43), (43, iv ((besK l (((wholeR l).1.2.1).getD i.toNat 0)).length : Int)), (44, iv j), (45, .bool (decide (j < ((besK l (((wholeR l).1.2.1).getD i.toNat 0)).length : Int))))] (TT ∧ True) hA H ⟨tv, tv⟩ fun a w51 hA H hG => ?_
   refine hK50 _ _ ?_
   refine go_seq fun K52 hK52 => ?_
   refine go_cond hA (.tmp 45) (decide (j < ((besK l (((wholeR l).1.2.1).getD i.toNat 0)).length : Int))) (fun hb53 => ?_) (fun hb53 => ?_)
   · have hhb53 := of_decide_eq_true hb53
     refine go_skip ?_
     refine hK52 _ _ ?_
     refine go_seq fun K54 hK54 => ?_
     refine go_block 3 ?_
     refine go_seq fun K55 hK55 => ?_
     have hv9 := hW.vb _ (besK_sub (getD_mem (l := (besK l ((wholeR l).1.2.1.getD i.toNat 0))) (i := j.toNat) (d := 0) (by omega)))
     have hcl := classes_len l ((wholeR l).1.2.1.getD i.toNat 0) ((besK l ((wholeR l).1.2.1.getD i.toNat 0)).getD j.toNat 0)
     refine q_reg [(47, iv ((besK l (((wholeR l).1.2.1).getD i.toNat 0)).getD j.toNat 0))] [(0, vl), (2, pv b2), (4, pv b14), (5, pv b16), (8, iv (((wholeR l).1.2.1).getD i.toNat 0)), (10, iv ((besK l (((wholeR l).1.2.1).getD i.toNat 0)).getD j.toNat 0)), (33, v7a), (34, iv (((wholeR l).1.2.1).length : Int)), (35, iv i), (42, v43), (43, iv ((besK l (((wholeR l).1.2.1).getD i.toNat 0)).length : Int)), (44, iv j)] (((Try.prog.info? 3).isSome = true ∧ IdxOk v43 j) ∧ (CellOk (On w51) (hdB v43) (hdO v43 + j.toNat * 1) (.int .i64 ((besK l (((wholeR l).1.2.1).getD i.toNat 0)).getD j.toNat 0))) ∧ TT ∧ True) hA H ⟨⟨by kernel_rfl, by exact idx_ok (H.get 0 rfl) (by omega) (by omega)⟩, by exact cell_flat (i := j) (H.get 0 rfl) (by omega) (by omega) 0 0, tv, tv⟩ fun a w56 hA H hG => ?_
     refine hK55 _ _ ?_
     refine go_seq fun K57 hK57 => ?_
     refine region_list ?_
     refine q_list 0 3 [] [(0, vl), (2, pv b2), (4, pv b14), (5, pv b16), (8, iv (((wholeR l).1.2.1).getD i.toNat 0)), (10, iv ((besK l (((wholeR l).1.2.1).getD i.toNat 0)).getD j.toNat 0)), (33, v7a), (34, iv (((wholeR l).1.2.1).length : Int)), (35, iv i), (42, v43), (43, iv ((besK l (((wholeR l).1.2.1).getD i.toNat 0)).length : Int)), (44, iv j), (48, vl), (49, iv (((wholeR l).1.2.1).getD i.toNat 0)), (50, iv ((besK l (((wholeR l).1.2.1).getD i.toNat 0)).getD j.toNat 0))] (TT ∧ TT ∧ TT ∧ True) hA H ⟨tv, tv, tv, tv⟩ fun a w58 hA H hG => ?_
     refine list_at 3 ?_; refine q_call 3 51 86 #[.tmp 48, .tmp 49, .tmp 50] #[69, 3, 3] [vl, .int .i64 (((wholeR l).1.2.1).getD i.toNat 0), .int .i64 ((besK l (((wholeR l).1.2.1).getD i.toNat 0)).getD j.toNat 0)] (fun S v_ w' => Rd S w' v_ ((classesL l (((wholeR l).1.2.1).getD i.toNat 0) ((besK l (((wholeR l).1.2.1).getD i.toNat 0)).getD j.toNat 0)))) [(0, vl), (2, pv b2), (4, pv b14), (5, pv b16), (8, iv (((wholeR l).1.2.1).getD i.toNat 0)), (10, iv ((besK l (((wholeR l).1.2.1).getD i.toNat 0)).getD j.toNat 0)), (33, v7a), (34, iv (((wholeR l).1.2.1).length : Int)), (35, iv i), (42, v43), (43, iv ((besK l (((wholeR l).1.2.1).getD i.toNat 0)).length : Int)), (44, iv j)] hA H (by exact classes_any vl l (((wholeR l).1.2.1).getD i.toNat 0) ((besK l (((wholeR l).1.2.1).getD i.toNat 0)).getD j.toNat 0) H.at ((H.arg hL)) (by omega) (by omega) (by omega) (fun i h0 h1 => ⟨(hwf i h0 h1).1, (hwf i h0 h1).2.1⟩)) fun v59 a w60 S hR61 H hA hG => ?_
     replace H := H.ro hR61
     refine q_list 4 2 [(52, iv ((classesL l (((wholeR l).1.2.1).getD i.toNat 0) ((besK l (((wholeR l).1.2.1).getD i.toNat 0)).getD j.toNat 0)).length : Int))] [(0, vl), (2, pv b2), (4, pv b14), (5, pv b16), (8, iv (((wholeR l).1.2.1).getD i.toNat 0)), (10, iv ((besK l (((wholeR l).1.2.1).getD i.toNat 0)).getD j.toNat 0)), (33, v7a), (34, iv (((wholeR l).1.2.1).length : Int)), (35, iv i), (42, v43), (43, iv ((besK l (((wholeR l).1.2.1).getD i.toNat 0)).length : Int)), (44, iv j), (51, v59), (52, iv ((classesL l (((wholeR l).1.2.1).getD i.toNat 0) ((besK l (((wholeR l).1.2.1).getD i.toNat 0)).getD j.toNat 0)).length : Int)), (53, iv 0)] ((LenOk v59 ((classesL l (((wholeR l).1.2.1).getD i.toNat 0) ((besK l (((wholeR l).1.2.1).getD i.toNat 0)).getD j.toNat 0)).length : Int)) ∧ TT ∧ True) hA H ⟨by exact len_ok (H.get 0 rfl), tv, tv⟩ fun a w63 hA H hG => ?_
     refine list_end ?_
     refine hK57 _ _ ?_
     refine go_block 4 ?_
     refine go_loop_ (Int) (fun x_ a W => (fun (k : Int) => EnvOk 69 a (keepEnv [(0, vl), (2, pv b2), (4, pv b14), (5, pv b16), (8, iv (((wholeR l).1.2.1).getD i.toNat 0)), (10, iv ((besK l (((wholeR l).1.2.1).getD i.toNat 0)).getD j.toNat 0)), (33, v7a), (34, iv (((wholeR l).1.2.1).length : Int)), (35, iv i), (42, v43), (43, iv ((besK l (((wholeR l).1.2.1).getD i.toNat 0)).length : Int)), (44, iv j), (51, v59), (52, iv ((classesL l (((wholeR l).1.2.1).getD i.toNat 0) ((besK l (((wholeR l).1.2.1).getD i.toNat 0)).getD j.toNat 0)).length : Int)), (53, iv k)]) ∧ (∃ S, Fr o W S [.ro v59 (classesL l (((wholeR l).1.2.1).getD i.toNat 0) ((besK l (((wholeR l).1.2.1).getD i.toNat 0)).getD j.toNat 0)), .ro v43 (besK l (((wholeR l).1.2.1).getD i.toNat 0)), .box b16 29 [v7a, v7b], .box b14 24 [.int .i64 ((wholeR l).1.1.1), v7e], .ro v7b ((wholeR l).1.2.2), .ro v7a ((wholeR l).1.2.1), .ro v7e ((wholeR l).1.1.2), .box b2 81 [.int .i64 0, .int .i64 0, (.slice none 0 0)]]) ∧ 0 ≤ k ∧ k ≤ ((classesL l ((wholeR l).1.2.1.getD i.toNat 0) ((besK l ((wholeR l).1.2.1.getD i.toNat 0)).getD j.toNat 0)).length : Int) ∧ (candC l ((wholeR l).1.2.1.getD i.toNat 0) ((besK l ((wholeR l).1.2.1.getD i.toNat 0)).getD j.toNat 0) ((classesL l ((wholeR l).1.2.1.getD i.toNat 0) ((besK l ((wholeR l).1.2.1.getD i.toNat 0)).getD j.toNat 0)).drop k.toNat) ++ (candV l ((wholeR l).1.2.1.getD i.toNat 0) ((besK l ((wholeR l).1.2.1.getD i.toNat 0)).drop (j + 1).toNat) ++ candU l ((wholeR l).1.2.1.drop (i + 1).toNat))).head? = firstK l) x_) (fun x_ => (fun (k : Int) => (((classesL l ((wholeR l).1.2.1.getD i.toNat 0) ((besK l ((wholeR l).1.2.1.getD i.toNat 0)).getD j.toNat 0)).length : Int) - k).toNat) x_) (0) ?_ (fun k a w65 hI => ?_)
     · (try dsimp only); exact ⟨env_sub _ hA, ⟨_, H⟩, by omega, by omega, first_v hj j0 (by omega)⟩
     obtain ⟨hA, ⟨S, H⟩, k0, k0b, hk⟩ := hI
     try dsimp only at k0 k0b hk
     refine go_seq fun K66 hK66 => ?_
     refine q_reg [] [(0, vl), (2, pv b2), (4, pv b14), (5, pv b16), (8, iv (((wholeR l).1.2.1).getD i.toNat 0)), (10, iv ((besK l (((wholeR l).1.2.1).getD i.toNat 0)).getD j.toNat 0)), (33, v7a), (34, iv (((wholeR l).1.2.1).length : Int)), (35, iv i), (42, v43), (43, iv ((besK l (((wholeR l).1.2.1).getD i.toNat 0)).length : Int)), (44, iv j), (51, v59), (52, iv ((classesL l (((wholeR l).1.2.1).getD i.toNat 0) ((besK l (((wholeR l).1.2.1).getD i.toNat 0)).getD j.toNat 0)).length : Int)), (53, iv k), (54, .bool (decide (k < ((classesL l (((wholeR l).1.2.1).getD i.toNat 0) ((besK l (((wholeR l).1.2.1).getD i.toNat 0)).getD j.toNat 0)).length : Int))))] (TT ∧ True) hA H ⟨tv, tv⟩ fun a w67 hA H hG => ?_
     refine hK66 _ _ ?_
     refine go_seq fun K68 hK68 => ?_
     refine go_cond hA (.tmp 54) (decide (k < ((classesL l (((wholeR l).1.2.1).getD i.toNat 0) ((besK l (((wholeR l).1.2.1).getD i.toNat 0)).getD j.toNat 0)).length : Int))) (fun hb69 => ?_) (fun hb69 => ?_)
     · have hhb69 := of_decide_eq_true hb69
       refine go_skip ?_
       refine hK68 _ _ ?_
       refine go_seq fun K70 hK70 => ?_
       refine go_block 5 ?_
       refine go_seq fun K71 hK71 => ?_
       have hkl := class_len (getD_mem (l := (classesL l ((wholeR l).1.2.1.getD i.toNat 0) ((besK l ((wholeR l).1.2.1.getD i.toNat 0)).getD j.toNat 0))) (i := k.toNat) (d := []) (by omega))
       obtain ⟨uc, huc, hur⟩ := cell_sliceC (C := On w67) H.keepsS (H.getS 0 rfl) k
       have hur := hur k0 (by omega)
       replace H := H.ro hur
       replace H : Fr _ _ _ [.ro uc ((classesL l ((wholeR l).1.2.1.getD i.toNat 0) ((besK l ((wholeR l).1.2.1.getD i.toNat 0)).getD j.toNat 0)).getD k.toNat []), .ro v59 (classesL l (((wholeR l).1.2.1).getD i.toNat 0) ((besK l (((wholeR l).1.2.1).getD i.toNat 0)).getD j.toNat 0)), .ro v43 (besK l (((wholeR l).1.2.1).getD i.toNat 0)), .box b16 29 [v7a, v7b], .box b14 24 [.int .i64 ((wholeR l).1.1.1), v7e], .ro v7b ((wholeR l).1.2.2), .ro v7a ((wholeR l).1.2.1), .ro v7e ((wholeR l).1.1.2), .box b2 81 [.int .i64 0, .int .i64 0, (.slice none 0 0)]] := H
       refine q_reg [(56, uc)] [(0, vl), (2, pv b2), (4, pv b14), (5, pv b16), (8, iv (((wholeR l).1.2.1).getD i.toNat 0)), (10, iv ((besK l (((wholeR l).1.2.1).getD i.toNat 0)).getD j.toNat 0)), (12, uc), (33, v7a), (34, iv (((wholeR l).1.2.1).length : Int)), (35, iv i), (42, v43), (43, iv ((besK l (((wholeR l).1.2.1).getD i.toNat 0)).length : Int)), (44, iv j), (51, v59), (52, iv ((classesL l (((wholeR l).1.2.1).getD i.toNat 0) ((besK l (((wholeR l).1.2.1).getD i.toNat 0)).getD j.toNat 0)).length : Int)), (53, iv k)] (((Try.prog.info? 27).isSome = true ∧ IdxOk v59 k) ∧ (CellOk (On w67) (hdB v59) (hdO v59 + k.toNat * 1) uc) ∧ TT ∧ True) hA H ⟨⟨by kernel_rfl, by exact idx_ok (H.get 1 rfl) (by omega) (by omega)⟩, by exact huc k0 (by omega), tv, tv⟩ fun a w72 hA H hG => ?_
       refine hK71 _ _ ?_
       refine go_seq fun K73 hK73 => ?_
       refine q_reg [(59, iv (((classesL l ((wholeR l).1.2.1.getD i.toNat 0) ((besK l ((wholeR l).1.2.1.getD i.toNat 0)).getD j.toNat 0)).getD k.toNat []).length : Int)), (60, .bool (decide (2 ≤ (((classesL l ((wholeR l).1.2.1.getD i.toNat 0) ((besK l ((wholeR l).1.2.1.getD i.toNat 0)).getD j.toNat 0)).getD k.toNat []).length : Int)) && decide (2 ≤ (l.length : Int) - (((classesL l ((wholeR l).1.2.1.getD i.toNat 0) ((besK l ((wholeR l).1.2.1.getD i.toNat 0)).getD j.toNat 0)).getD k.toNat []).length : Int))))] [(0, vl), (2, pv b2), (4, pv b14), (5, pv b16), (8, iv (((wholeR l).1.2.1).getD i.toNat 0)), (10, iv ((besK l (((wholeR l).1.2.1).getD i.toNat 0)).getD j.toNat 0)), (12, uc), (33, v7a), (34, iv (((wholeR l).1.2.1).length : Int)), (35, iv i), (42, v43), (43, iv ((besK l (((wholeR l).1.2.1).getD i.toNat 0)).length : Int)), (44, iv j), (51, v59), (52, iv ((classesL l (((wholeR l).1.2.1).getD i.toNat 0) ((besK l (((wholeR l).1.2.1).getD i.toNat 0)).getD j.toNat 0)).length : Int)), (53, iv k), (60, .bool (decide (2 ≤ (((classesL l ((wholeR l).1.2.1.getD i.toNat 0) ((besK l ((wholeR l).1.2.1.getD i.toNat 0)).getD j.toNat 0)).getD k.toNat []).length : Int)) && decide (2 ≤ (l.length : Int) - (((classesL l ((wholeR l).1.2.1.getD i.toNat 0) ((besK l ((wholeR l).1.2.1.getD i.toNat 0)).getD j.toNat 0)).getD k.toNat []).length : Int))))] (TT ∧ TT ∧ (LenOk uc (((classesL l ((wholeR l).1.2.1.getD i.toNat 0) ((besK l ((wholeR l).1.2.1.getD i.toNat 0)).getD j.toNat 0)).getD k.toNat []).length : Int)) ∧ (Callable Try.prog 92 ∧ CallOk Try.prog (On w72) 92 [vl, .int .i64 (((classesL l ((wholeR l).1.2.1.getD i.toNat 0) ((besK l ((wholeR l).1.2.1.getD i.toNat 0)).getD j.toNat 0)).getD k.toNat []).length : Int)].toArray (.bool (decide (2 ≤ (((classesL l ((wholeR l).1.2.1.getD i.toNat 0) ((besK l ((wholeR l).1.2.1.getD i.toNat 0)).getD j.toNat 0)).getD k.toNat []).length : Int)) && decide (2 ≤ (l.length : Int) - (((classesL l ((wholeR l).1.2.1.getD i.toNat 0) ((besK l ((wholeR l).1.2.1.getD i.toNat 0)).getD j.toNat 0)).getD k.toNat []).length : Int))))) ∧ True) hA H ⟨tv, tv, by exact len_ok (H.get 0 rfl), ⟨callable_of, callOk_of fun w hw => by exact will_any vl l (((classesL l ((wholeR l).1.2.1.getD i.toNat 0) ((besK l ((wholeR l).1.2.1.getD i.toNat 0)).getD j.toNat 0)).getD k.toNat []).length : Int) w (((H.on hw).arg hL)) (by omega) (by omega)⟩, tv⟩ fun a w74 hA H hG => ?_
       refine hK73 _ _ ?_
       refine go_cond hA (.tmp 60) (decide (2 ≤ (((classesL l ((wholeR l).1.2.1.getD i.toNat 0) ((besK l ((wholeR l).1.2.1.getD i.toNat 0)).getD j.toNat 0)).getD k.toNat []).length : Int)) && decide (2 ≤ (l.length : Int) - (((classesL l ((wholeR l).1.2.1.getD i.toNat 0) ((besK l ((wholeR l).1.2.1.getD i.toNat 0)).getD j.toNat 0)).getD k.toNat []).length : Int))) (fun hb75 => ?_) (fun hb75 => ?_)
       · have hhb75 := (⟨of_decide_eq_true ((aT hb75).1), of_decide_eq_true ((aT hb75).2)⟩ : _ ∧ _)
         refine go_seq fun K76 hK76 => ?_
         refine region_list ?_
         refine q_list 0 4 [(64, .agg #[.int .i64 (((wholeR l).1.2.1).getD i.toNat 0), .int .i64 ((besK l (((wholeR l).1.2.1).getD i.toNat 0)).getD j.toNat 0), uc])] [(2, pv b2), (64, .agg #[.int .i64 (((wholeR l).1.2.1).getD i.toNat 0), .int .i64 ((besK l (((wholeR l).1.2.1).getD i.toNat 0)).getD j.toNat 0), uc])] (TT ∧ TT ∧ TT ∧ (∀ w, (Instr.build 81 #[(0, iv (((wholeR l).1.2.1).getD i.toNat 0)), (1, iv ((besK l (((wholeR l).1.2.1).getD i.toNat 0)).getD j.toNat 0)), (2, uc)]).run Try.prog w = .ok (.agg #[.int .i64 (((wholeR l).1.2.1).getD i.toNat 0), .int .i64 ((besK l (((wholeR l).1.2.1).getD i.toNat 0)).getD j.toNat 0), uc]) w) ∧ True) hA H ⟨tv, tv, tv, fun w => by obtain ⟨_, _, _, e0⟩ := rd_form (H.get 0 rfl); rw [e0]; kernel_rfl, tv⟩ fun a w77 hA H hG => ?_
         refine list_at 4 ?_; refine q_store 4 81 (.tmp 2) (.tmp 64) 8 b2 (0) 81 [.int .i64 0, .int .i64 0, (.slice none 0 0)] [.int .i64 (((wholeR l).1.2.1).getD i.toNat 0), .int .i64 ((besK l (((wholeR l).1.2.1).getD i.toNat 0)).getD j.toNat 0), uc] [.int .i64 (((wholeR l).1.2.1).getD i.toNat 0), .int .i64 ((besK l (((wholeR l).1.2.1).getD i.toNat 0)).getD j.toNat 0), uc] (.agg #[.int .i64 (((wholeR l).1.2.1).getD i.toNat 0), .int .i64 ((besK l (((wholeR l).1.2.1).getD i.toNat 0)).getD j.toNat 0), uc]) [(2, pv b2)] hA H rfl rfl (Nat.le_of_ble_eq_true (by kernel_rfl)) rfl (fun v hv => by simp only [List.mem_cons, List.not_mem_nil, or_false] at hv; rcases hv with rfl | rfl | rfl; exact rfl; exact rfl; exact (rd_one (H.get 0 rfl))) fun a w78 H hA hG => ?_
         replace H : Fr _ _ _ [.ro uc ((classesL l ((wholeR l).1.2.1.getD i.toNat 0) ((besK l ((wholeR l).1.2.1.getD i.toNat 0)).getD j.toNat 0)).getD k.toNat []), .ro v59 (classesL l (((wholeR l).1.2.1).getD i.toNat 0) ((besK l (((wholeR l).1.2.1).getD i.toNat 0)).getD j.toNat 0)), .ro v43 (besK l (((wholeR l).1.2.1).getD i.toNat 0)), .box b16 29 [v7a, v7b], .box b14 24 [.int .i64 ((wholeR l).1.1.1), v7e], .ro v7b ((wholeR l).1.2.2), .ro v7a ((wholeR l).1.2.1), .ro v7e ((wholeR l).1.1.2), .box b2 81 [.int .i64 (((wholeR l).1.2.1).getD i.toNat 0), .int .i64 ((besK l (((wholeR l).1.2.1).getD i.toNat 0)).getD j.toNat 0), uc]] := H
         refine q_list 5 1 [] [(2, pv b2), (3, .bool true)] (TT ∧ True) hA H ⟨tv, tv⟩ fun a w79 hA H hG => ?_
         refine list_end ?_
         refine hK76 _ _ ?_
         refine go_ret_ ?_
         refine ret_cell2 2 3 81 8 b2 81 [.int .i64 (((wholeR l).1.2.1).getD i.toNat 0), .int .i64 ((besK l (((wholeR l).1.2.1).getD i.toNat 0)).getD j.toNat 0), uc] #[.int .i64 (((wholeR l).1.2.1).getD i.toNat 0), .int .i64 ((besK l (((wholeR l).1.2.1).getD i.toNat 0)).getD j.toNat 0), uc] (.bool true) hA H rfl ?_ (ht := ⟨_, Try.underlying81⟩)
         exact ⟨_, rfl, first_giv (first_hit hk k0 (by omega) hb75) (H.giveRo 0 rfl), H.below⟩
       have hhb75 := (aF hb75).imp (fun h => of_decide_eq_false h) (fun h => of_decide_eq_false h)
       refine go_skip ?_
       refine hK70 _ _ ?_
       refine q_reg [] [(0, vl), (2, pv b2), (4, pv b14), (5, pv b16), (8, iv (((wholeR l).1.2.1).getD i.toNat 0)), (10, iv ((besK l (((wholeR l).1.2.1).getD i.toNat 0)).getD j.toNat 0)), (33, v7a), (34, iv (((wholeR l).1.2.1).length : Int)), (35, iv i), (42, v43), (43, iv ((besK l (((wholeR l).1.2.1).getD i.toNat 0)).length : Int)), (44, iv j), (51, v59), (52, iv ((classesL l (((wholeR l).1.2.1).getD i.toNat 0) ((besK l (((wholeR l).1.2.1).getD i.toNat 0)).getD j.toNat 0)).length : Int)), (53, iv (k + 1))] ((InR .i64 (k + 1)) ∧ TT ∧ True) hA H ⟨⟨by omega, by omega⟩, tv, tv⟩ fun a w80 hA H hG => ?_
       replace H := H.drop 0
       refine ⟨(k + 1), ⟨env_sub _ hA, ⟨_, H⟩, ?_⟩, ?_⟩
       · (try dsimp only); exact ⟨by omega, by omega, first_c hk k0 (by omega) hb75⟩
       (try dsimp only); omega
     have hhb69 := of_decide_eq_false hb69
     refine go_exit 4 ?_
     refine hK54 _ _ ?_
     refine q_reg [] [(0, vl), (2, pv b2), (4, pv b14), (5, pv b16), (8, iv (((wholeR l).1.2.1).getD i.toNat 0)), (33, v7a), (34, iv (((wholeR l).1.2.1).length : Int)), (35, iv i), (42, v43), (43, iv ((besK l (((wholeR l).1.2.1).getD i.toNat 0)).length : Int)), (44, iv (j + 1))] ((InR .i64 (j + 1)) ∧ TT ∧ True) hA H ⟨⟨by omega, by omega⟩, tv, tv⟩ fun a w81 hA H hG => ?_
     replace H := H.drop 0
     refine ⟨(j + 1), ⟨env_sub _ hA, ⟨_, H⟩, ?_⟩, ?_⟩
     · (try dsimp only); exact ⟨by omega, by omega, first_cend hk (by omega)⟩
     (try dsimp only); omega
   have hhb53 := of_decide_eq_false hb53
   refine go_exit 2 ?_
   refine hK38 _ _ ?_
   refine q_reg [] [(0, vl), (2, pv b2), (4, pv b14), (5, pv b16), (33, v7a), (34, iv (((wholeR l).1.2.1).length : Int)), (35, iv (i + 1))] ((InR .i64 (i + 1)) ∧ TT ∧ True) hA H ⟨⟨by omega, by omega⟩, tv, tv⟩ fun a w82 hA H hG => ?_
   replace H := H.drop 0
   refine ⟨(i + 1), ⟨env_sub _ hA, ⟨_, H⟩, ?_⟩, ?_⟩
   · (try dsimp only); exact ⟨by omega, by omega, first_vend hj (by omega)⟩
   (try dsimp only); omega
 have hhb37 := of_decide_eq_false hb37
 refine go_exit 0 ?_
 refine hK29 _ _ ?_
 refine go_seq fun K83 hK83 => ?_
 refine region_list ?_
 refine q_list 0 1 [(68, .agg #[.int .i64 0, .int .i64 0, (.slice none 0 0)])] [(2, pv b2), (68, .agg #[.int .i64 0, .int .i64 0, (.slice none 0 0)])] ((∀ w, (Instr.build 81 #[]).run Try.prog w = .ok (.agg #[.int .i64 0, .int .i64 0, (.slice none 0 0)]) w) ∧ True) hA H ⟨fun w => by kernel_rfl, tv⟩ fun a w84 hA H hG => ?_
 refine list_at 1 ?_; refine q_store 1 81 (.tmp 2) (.tmp 68) 5 b2 (0) 81 [.int .i64 0, .int .i64 0, (.slice none 0 0)] [.int .i64 0, .int .i64 0, (.slice none 0 0)] [.int .i64 0, .int .i64 0, (.slice none 0 0)] (.agg #[.int .i64 0, .int .i64 0, (.slice none 0 0)]) [(2, pv b2)] hA H rfl rfl (Nat.le_of_ble_eq_true (by kernel_rfl)) rfl (fun v hv => by simp only [List.mem_cons, List.not_mem_nil, or_false] at hv; rcases hv with rfl | rfl | rfl; exact rfl; exact rfl; exact rfl) fun a w85 H hA hG => ?_
 replace H : Fr _ _ _ [.box b16 29 [v7a, v7b], .box b14 24 [.int .i64 ((wholeR l).1.1.1), v7e], .ro v7b ((wholeR l).1.2.2), .ro v7a ((wholeR l).1.2.1), .ro v7e ((wholeR l).1.1.2), .box b2 81 [.int .i64 0, .int .i64 0, (.slice none 0 0)]] := H
 refine q_list 2 1 [] [(2, pv b2), (3, .bool false)] (TT ∧ True) hA H ⟨tv, tv⟩ fun a w86 hA H hG => ?_
 refine list_end ?_
 refine hK83 _ _ ?_
 refine go_ret_ ?_
 refine ret_cell2 2 3 81 5 b2 81 [.int .i64 0, .int .i64 0, (.slice none 0 0)] #[.int .i64 0, .int .i64 0, (.slice none 0 0)] (.bool false) hA H rfl ?_ (ht := ⟨_, Try.underlying81⟩)
 exact ⟨_, rfl, first_nil (first_uend hi (by omega)), H.below⟩
theorem kind_any (vl : Value) (l : List (Int × Int × Int)) (w : World) (hL : Rd (· < w.heap.size) w vl l) (hs : l.length ≤ 100000) (hwf : WfL l) :
 Calls Try.prog 64 [vl].toArray w (Ans (.tuple #[.int .i64 (kindK l), .bool (rightK l)]) w) := by
 have hvl := verts_len l
 refine enter Try.f64 28 Try.func64 fun a hA => ?_
 replace hA := env_sub [(0, vl)] hA
 have H := Fr.start (org w)
 refine go_seq fun K1 hK1 => ?_
 refine q_reg [] [(0, vl)] (TT ∧ TT ∧ True) hA H ⟨tv, tv, tv⟩ fun a w2 hA H hG => ?_
 refine hK1 _ _ ?_
 refine go_seq fun K3 hK3 => ?_
 refine go_block 0 ?_
 refine go_seq fun K4 hK4 => ?_
 refine q_reg [(8, .bool (rightK l))] [(0, vl), (6, .bool (!(rightK l)))] (TT ∧ (Callable Try.prog 59 ∧ CallOk Try.prog (On w2) 59 [vl].toArray (.bool (rightK l))) ∧ TT ∧ TT ∧ True) hA H ⟨tv, ⟨callable_of, callOk_of fun w hw => by exact pright_any vl l w (((H.on hw).arg hL)) (by omega) hwf⟩, tv, tv, tv⟩ fun a w5 hA H hG => ?_
 refine hK4 _ _ ?_
 refine go_cond hA (.tmp 6) (!(rightK l)) (fun hb6 => ?_) (fun hb6 => ?_)
 · have hhb6 := (nT hb6)
   refine go_seq fun K7 hK7 => ?_
   refine q_reg [] [(2, iv 0), (3, .bool false)] (TT ∧ TT ∧ True) hA H ⟨tv, tv, tv⟩ fun a w8 hA H hG => ?_
   refine hK7 _ _ ?_
   refine go_ret_ ?_
   refine ret_two 2 3 (.int .i64 0) (.bool false) hA ?_
   have e9 : kindK l = 0 := by unfold kindK; rw [if_pos (by simpa using hhb6)]
   have e8 : rightK l = false := by simpa using hhb6
   exact ⟨by rw [e9, e8], H.below⟩
 have hhb6 := (nF hb6)
 refine go_seq fun K9 hK9 => ?_
 refine q_reg [(12, iv (l.length : Int))] [(0, vl), (10, .bool (decide ((l.length : Int) = 1)))] (TT ∧ (LenOk vl (l.length : Int)) ∧ TT ∧ TT ∧ True) hA H ⟨tv, by exact len_ok (H.arg hL), tv, tv, tv⟩ fun a w10 hA H hG => ?_
 refine hK9 _ _ ?_
 refine go_cond hA (.tmp 10) (decide ((l.length : Int) = 1)) (fun hb11 => ?_) (fun hb11 => ?_)
 · have hhb11 := of_decide_eq_true hb11
   refine go_seq fun K12 hK12 => ?_
   refine q_reg [] [(2, iv 0), (3, .bool true)] (TT ∧ TT ∧ True) hA H ⟨tv, tv, tv⟩ fun a w13 hA H hG => ?_
   refine hK12 _ _ ?_
   refine go_ret_ ?_
   refine ret_two 2 3 (.int .i64 0) (.bool true) hA ?_
   have e9 : kindK l = 0 := by unfold kindK; rw [if_neg (by simpa using hhb6), if_pos (by omega)]
   have e8 : rightK l = true := by simpa using hhb6
   exact ⟨by rw [e9, e8], H.below⟩
 have hhb11 := of_decide_eq_false hb11
 refine go_seq fun K14 hK14 => ?_
 refine q_reg [(16, .bool (ringsB l))] [(0, vl), (14, .bool (ringsB l))] (TT ∧ (Callable Try.prog 90 ∧ CallOk Try.prog (On w10) 90 [vl].toArray (.bool (ringsB l))) ∧ TT ∧ True) hA H ⟨tv, ⟨callable_of, callOk_of fun w hw => by exact rings_any vl l w (((H.on hw).arg hL)) (by omega) hwf⟩, tv, tv⟩ fun a w15 hA H hG => ?_
 refine hK14 _ _ ?_
 refine go_cond hA (.tmp 14) (ringsB l) (fun hb16 => ?_) (fun hb16 => ?_)
 · have hhb16 := hb16
   refine go_seq fun K17 hK17 => ?_
   refine q_reg [] [(2, iv 1), (3, .bool true)] (TT ∧ TT ∧ True) hA H ⟨tv, tv, tv⟩ fun a w18 hA H hG => ?_
   refine hK17 _ _ ?_
   refine go_ret_ ?_
   refine ret_two 2 3 (.int .i64 1) (.bool true) hA ?_
   have e9 : kindK l = 1 := by unfold kindK; rw [if_neg (by simpa using hhb6), if_neg (by omega), if_pos (by simpa using hhb16)]
   have e8 : rightK l = true := by simpa using hhb6
   exact ⟨by rw [e9, e8], H.below⟩
 have hhb16 := hb16
 refine go_seq fun K19 hK19 => ?_
 refine region_list ?_
 refine q_list 0 1 [] [(0, vl), (18, vl)] (TT ∧ True) hA H ⟨tv, tv⟩ fun a w20 hA H hG => ?_
 refine list_at 1 ?_; refine q_call 1 19 61 #[.tmp 18] #[69] [vl] (fun S v_ w' => Rd S w' v_ (vertsL l)) [(0, vl)] hA H (by exact verts_any vl l H.at ((H.arg hL)) (by omega)) fun v21 a w22 S hR23 H hA hG => ?_
 replace H := H.ro hR23
 refine q_list 2 3 [(20, iv ((vertsL l).length : Int))] [(0, vl), (17, .bool (decide (((vertsL l).length : Int) = 2)))] ((LenOk v21 ((vertsL l).length : Int)) ∧ TT ∧ TT ∧ True) hA H ⟨by exact len_ok (H.get 0 rfl), tv, tv, tv⟩ fun a w25 hA H hG => ?_
 refine list_end ?_
 refine hK19 _ _ ?_
 refine go_cond hA (.tmp 17) (decide (((vertsL l).length : Int) = 2)) (fun hb26 => ?_) (fun hb26 => ?_)
 · have hhb26 := of_decide_eq_true hb26
   refine go_seq fun K27 hK27 => ?_
   refine q_reg [] [(2, iv 2), (3, .bool true)] (TT ∧ TT ∧ True) hA H ⟨tv, tv, tv⟩ fun a w28 hA H hG => ?_
   refine hK27 _ _ ?_
   refine go_ret_ ?_
   refine ret_two 2 3 (.int .i64 2) (.bool true) hA ?_
   have e9 : kindK l = 2 := by unfold kindK; rw [if_neg (by simpa using hhb6), if_neg (by omega), if_neg (by simpa using hhb16), if_pos (by omega)]
   have e8 : rightK l = true := by simpa using hhb6
   exact ⟨by rw [e9, e8], H.below⟩
 have hhb26 := of_decide_eq_false hb26
 refine go_skip ?_
 refine hK3 _ _ ?_
 refine go_seq fun K29 hK29 => ?_
 refine go_seq fun K30 hK30 => ?_
 refine region_list ?_
 refine q_list 0 1 [] [(23, vl)] (TT ∧ True) hA H ⟨tv, tv⟩ fun a w31 hA H hG => ?_
 refine list_at 1 ?_; refine q_call 1 24 65 #[.tmp 23] #[69] [vl] _ [] hA H (by exact first_any vl l H.at ((H.arg hL)) (by omega) hwf) fun v32 a w33 S hR34 H hA hG => ?_
 obtain ⟨v32s, rfl, hR34s⟩ := hR34
 replace H := H.ro hR34s
 replace H : Fr _ _ _ [.ro v32s (firstD l).2.2, .ro v21 (vertsL l)] := H
 refine q_list 2 3 [] [(25, .agg #[.int .i64 ((firstD l).1), .int .i64 ((firstD l).2.1), v32s]), (26, .bool ((firstK l).isSome))] (TT ∧ TT ∧ TT ∧ True) hA H ⟨tv, tv, tv, tv⟩ fun a w36 hA H hG => ?_
 refine list_at 5 ?_; refine q_alloc 5 4 81 [.int .i64 0, .int .i64 0, (.slice none 0 0)] [(25, .agg #[.int .i64 ((firstD l).1), .int .i64 ((firstD l).2.1), v32s]), (26, .bool ((firstK l).isSome))] hA H fun b37 a w38 H hA hG hge_b37 => ?_
 clear hge_b37
 refine list_at 6 ?_; refine q_store 6 81 (.tmp 4) (.tmp 25) 0 b37 (0) 81 [.int .i64 0, .int .i64 0, (.slice none 0 0)] [.int .i64 ((firstD l).1), .int .i64 ((firstD l).2.1), v32s] [.int .i64 ((firstD l).1), .int .i64 ((firstD l).2.1), v32s] (.agg #[.int .i64 ((firstD l).1), .int .i64 ((firstD l).2.1), v32s]) [(26, .bool ((firstK l).isSome))] hA H rfl rfl (Nat.le_of_ble_eq_true (by kernel_rfl)) rfl (fun v hv => by simp only [List.mem_cons, List.not_mem_nil, or_false] at hv; rcases hv with rfl | rfl | rfl; exact rfl; exact rfl; exact (rd_one (H.get 1 rfl))) fun a w39 H hA hG => ?_
 replace H : Fr _ _ _ [.box b37 81 [.int .i64 ((firstD l).1), .int .i64 ((firstD l).2.1), v32s], .ro v32s (firstD l).2.2, .ro v21 (vertsL l)] := H
 refine q_list 7 1 [] [(5, .bool ((firstK l).isSome))] (TT ∧ True) hA H ⟨tv, tv⟩ fun a w40 hA H hG => ?_
 refine list_end ?_
 refine hK30 _ _ ?_
 refine go_seq fun K41 hK41 => ?_
 refine q_reg [] [(27, .bool ((firstK l).isSome))] (TT ∧ True) hA H ⟨tv, tv⟩ fun a w42 hA H hG => ?_
 refine hK41 _ _ ?_
 refine go_cond hA (.tmp 27) ((firstK l).isSome) (fun hb43 => ?_) (fun hb43 => ?_)
 · have hhb43 := hb43
   refine go_seq fun K44 hK44 => ?_
   refine q_reg [] [(2, iv 4), (3, .bool true)] (TT ∧ TT ∧ True) hA H ⟨tv, tv, tv⟩ fun a w45 hA H hG => ?_
   refine hK44 _ _ ?_
   refine go_ret_ ?_
   refine ret_two 2 3 (.int .i64 4) (.bool true) hA ?_
   have e9 : kindK l = 4 := by unfold kindK; rw [if_neg (by simpa using hhb6), if_neg (by omega), if_neg (by simpa using hhb16), if_neg (by omega), if_pos (by simpa using hhb43)]
   have e8 : rightK l = true := by simpa using hhb6
   exact ⟨by rw [e9, e8], H.below⟩
 have hhb43 := hb43
 refine go_skip ?_
 refine hK29 _ _ ?_
 refine go_seq fun K46 hK46 => ?_
 refine q_reg [] [(2, iv 3), (3, .bool true)] (TT ∧ TT ∧ True) hA H ⟨tv, tv, tv⟩ fun a w47 hA H hG => ?_
 refine hK46 _ _ ?_
 refine go_ret_ ?_
 refine ret_two 2 3 (.int .i64 3) (.bool true) hA ?_
 have e9 : kindK l = 3 := by unfold kindK; rw [if_neg (by simpa using hhb6), if_neg (by omega), if_neg (by simpa using hhb16), if_neg (by omega), if_neg (by simpa using hhb43)]
 have e8 : rightK l = true := by simpa using hhb6
 exact ⟨by rw [e9, e8], H.below⟩
def offL (l : List Lk) (sd : List Int) (i : Int) : List Lk := ((upto i).filter fun j => hasB sd j).map fun j => l.getD j.toNat (0, (0, 0))
def restL (l : List Lk) (sd : List Int) (i : Int) : List Lk := ((upto i).filter fun j => !hasB sd j).map fun j => l.getD j.toNat (0, (0, 0))
def cutOk (l : List Lk) (x y : Int) (sd : List Int) (id : Int) : Bool := !((((!(pclassesE l x y).any fun c => decide (c = sd)) || !willB l (sd.length : Int)) || decide (0 ≤ id)) || l.any fun b => decide (b.2.2 = id))
def cutA (l : List Lk) (x y : Int) (sd : List Int) (id : Int) : List Lk := if cutOk l x y sd id = true then offL l sd (l.length : Int) ++ [(x, (y, id))] else []
def cutB (l : List Lk) (x y : Int) (sd : List Int) (id : Int) : List Lk := if cutOk l x y sd id = true then restL l sd (l.length : Int) ++ [(x, (y, id))] else []
theorem pclasses_len (l : List Lk) (x y : Int) : (pclassesE l x y).length ≤ l.length := by
 unfold pclassesE; split
 · simp
 exact classes_len l x y
end Go.Proofs.Ytahonnlgkmimlaa
namespace Go.Proofs.Ytahonnlgkmimlaa
open Go.RowKit
end Go.Proofs.Ytahonnlgkmimlaa
namespace Go.Proofs.Ytahonnlgkmimlaa
open Go.RowKit
def touchK (a b : Lk) (u v : Int) : Prop := (a.1 ≠ u ∧ a.1 ≠ v ∧ (a.1 = b.1 ∨ a.1 = b.2.1)) ∨ (a.2.1 ≠ u ∧ a.2.1 ≠ v ∧ (a.2.1 = b.1 ∨ a.2.1 = b.2.1))
instance (a b : Lk) (u v : Int) : Decidable (touchK a b u v) := by unfold touchK; infer_instance
abbrev lkAt (l : List Lk) (i : Int) : Lk := l.getD i.toNat (0, (0, 0))
def endP (l : List Lk) (i w : Int) : Prop := lkA l i = w ∨ lkB l i = w
theorem touch_iff {l : List Lk} {i j u v : Int} : touchK (lkAt l i) (lkAt l j) u v ↔ ∃ w, w ≠ u ∧ w ≠ v ∧ endP l i w ∧ endP l j w := by
 unfold touchK endP lkA lkB lkAt
 constructor
 · rintro (⟨h1, h2, h3⟩ | ⟨h1, h2, h3⟩)
   · exact ⟨_, h1, h2, .inl rfl, h3.imp Eq.symm Eq.symm⟩
   exact ⟨_, h1, h2, .inr rfl, h3.imp Eq.symm Eq.symm⟩
 rintro ⟨w, h1, h2, h3 | h3, h4⟩
 · subst h3; exact .inl ⟨h1, h2, h4.imp Eq.symm Eq.symm⟩
 subst h3; exact .inr ⟨h1, h2, h4.imp Eq.symm Eq.symm⟩
theorem touch_symm {l : List Lk} {i j u v : Int} (h : touchK (lkAt l i) (lkAt l j) u v) : touchK (lkAt l j) (lkAt l i) u v := by
 obtain ⟨w, h1, h2, h3, h4⟩ := touch_iff.1 h; exact touch_iff.2 ⟨w, h1, h2, h4, h3⟩
inductive Cn (l : List Lk) (u v : Int) : Int → Int → Prop
 | refl (i : Int) : Cn l u v i i
 | link {i j : Int} : 0 ≤ i → i < (l.length : Int) → 0 ≤ j → j < (l.length : Int) → touchK (lkAt l i) (lkAt l j) u v → Cn l u v i j
 | symm {i j : Int} : Cn l u v i j → Cn l u v j i
 | trans {i j k : Int} : Cn l u v i j → Cn l u v j k → Cn l u v i k
theorem joinR_eq {R : Int → Int} {x y : Int} : joinR R x y x = joinR R x y y := by unfold joinR; split <;> split <;> omega
theorem joinR_con {R : Int → Int} {x y a b : Int} (h : R a = R b) : joinR R x y a = joinR R x y b := by unfold joinR; rw [h]
theorem joinR_cases {R : Int → Int} {x y a b : Int} (h : joinR R x y a = joinR R x y b) : R a = R b ∨ ((R a = R x ∨ R a = R y) ∧ (R b = R x ∨ R b = R y)) := by
 unfold joinR at h
 split at h <;> split at h <;> omega
structure Cl9 (l : List Lk) (u v : Int) (D : Int → Int → Prop) (s : ClS) : Prop where
 sound : ∀ a b, s.1 a = s.1 b → Cn l u v a b
 fst : ∀ w f, s.2 w = some f → 0 ≤ f ∧ f < (l.length : Int) ∧ endP l f w ∧ w ≠ u ∧ w ≠ v
 done : ∀ k w, D k w → w ≠ u → w ≠ v → ∃ f, s.2 w = some f ∧ s.1 k = s.1 f
theorem cl9_step {l : List Lk} {u v i w : Int} {D : Int → Int → Prop} {s : ClS} (h : Cl9 l u v D s) (h0 : 0 ≤ i) (h1 : i < (l.length : Int)) (he : endP l i w) : Cl9 l u v (fun k z => D k z ∨ (k = i ∧ z = w)) (clStep u v i w s) := by
 unfold clStep
 split
 · rename_i q
   refine ⟨h.sound, h.fst, fun k z hd hu hv => ?_⟩
   rcases hd with hd | ⟨rfl, rfl⟩
   · exact h.done k z hd hu hv
   rcases q with q | q
   · exact (hu q).elim
   exact (hv q).elim
 rename_i q
 split
 · rename_i f hf
   obtain ⟨f0, f1, f2, f3, f4⟩ := h.fst w f hf
   have ht : Cn l u v f i := .link f0 f1 h0 h1 (touch_iff.2 ⟨w, f3, f4, f2, he⟩)
   refine ⟨fun a b hab => ?_, h.fst, fun k z hd hu hv => ?_⟩
   · rcases joinR_cases hab with e | ⟨e1, e2⟩
     · exact h.sound a b e
     have c1 : Cn l u v a f := by
       rcases e1 with e | e
       · exact h.sound a f e
       exact (h.sound a i e).trans ht.symm
     have c2 : Cn l u v b f := by
       rcases e2 with e | e
       · exact h.sound b f e
       exact (h.sound b i e).trans ht.symm
     exact c1.trans c2.symm
   rcases hd with hd | ⟨rfl, rfl⟩
   · obtain ⟨g, hg, e⟩ := h.done k z hd hu hv
     exact ⟨g, hg, joinR_con e⟩
   exact ⟨f, hf, joinR_eq.symm⟩
 rename_i hn
 refine ⟨h.sound, fun z f hz => ?_, fun k z hd hu hv => ?_⟩
 · have hz : (if z = w then some i else s.2 z) = some f := hz
   split at hz
   · rename_i e; cases hz; subst e; exact ⟨h0, h1, he, fun e => q (.inl e), fun e => q (.inr e)⟩
   exact h.fst z f hz
 show ∃ f, (if z = w then some i else s.2 z) = some f ∧ s.1 k = s.1 f
 rcases hd with hd | ⟨rfl, rfl⟩
 · obtain ⟨g, hg, e⟩ := h.done k z hd hu hv
   by_cases e2 : z = w
   · subst e2; rw [hn] at hg; cases hg
   rw [if_neg e2]; exact ⟨g, hg, e⟩
 rw [if_pos rfl]; exact ⟨_, rfl, rfl⟩
theorem cl9_run {l : List Lk} {u v : Int} : ∀ n : Nat, n ≤ l.length → Cl9 l u v (fun k w => 0 ≤ k ∧ k < (n : Int) ∧ endP l k w) (clRun u v l n)
 | 0, _ => ⟨fun a b h => by have h : a = b := h; subst h; exact .refl _, fun w f h => (by cases h), fun k w h => (by omega)⟩
 | n + 1, hn => by
   have h := cl9_step (cl9_step (cl9_run (u := u) (v := v) n (by omega)) (i := (n : Int)) (w := lkA l (n : Int)) (by omega) (by omega) (.inl rfl)) (i := (n : Int)) (w := lkB l (n : Int)) (by omega) (by omega) (.inr rfl)
   refine ⟨h.sound, h.fst, fun k w ⟨k0, k1, k2⟩ hu hv => h.done k w ?_ hu hv⟩
   by_cases e : k = (n : Int)
   · subst e
     rcases k2 with e | e
     · exact .inl (.inr ⟨rfl, e.symm⟩)
     exact .inr ⟨rfl, e.symm⟩
   exact .inl (.inl ⟨k0, by omega, k2⟩)
theorem clR_le (u v : Int) (l : List Lk) (j : Int) : clR u v l j ≤ j := (clB_run u v l l.length).le j
theorem clR_cn {u v : Int} {l : List Lk} {i j : Int} (h : clR u v l i = clR u v l j) : Cn l u v i j := (cl9_run l.length (Nat.le_refl _)).sound i j h
theorem cn_clR {u v : Int} {l : List Lk} {i j : Int} (h : Cn l u v i j) : clR u v l i = clR u v l j := by
 induction h with
 | refl => rfl
 | link a b c d e =>
   obtain ⟨w, h1, h2, h3, h4⟩ := touch_iff.1 e
   have h9 := cl9_run (u := u) (v := v) (l := l) l.length (Nat.le_refl _)
   obtain ⟨f, hf, e1⟩ := h9.done _ w ⟨a, b, h3⟩ h1 h2
   obtain ⟨f', hf', e2⟩ := h9.done _ w ⟨c, d, h4⟩ h1 h2
   rw [hf] at hf'; cases hf'
   exact e1.trans e2.symm
 | symm _ ih => exact ih.symm
 | trans _ _ h1 h2 => exact h1.trans h2
structure ClM (s : ClS) : Prop where
 pos : ∀ j, 0 ≤ j → 0 ≤ s.1 j
 idem : ∀ j, 0 ≤ j → s.1 (s.1 j) = s.1 j
 fs : ∀ w f, s.2 w = some f → 0 ≤ f
theorem clM_step {u v i w : Int} {s : ClS} (h0 : 0 ≤ i) (h : ClM s) : ClM (clStep u v i w s) := by
 unfold clStep
 split
 · exact h
 split
 · rename_i f hf
   have f0 := h.fs w f hf
   have a1 := h.pos f f0; have a2 := h.pos i h0; have a3 := h.idem f f0; have a4 := h.idem i h0
   refine ⟨fun j hj => ?_, fun j hj => ?_, h.fs⟩
   · show 0 ≤ joinR s.1 f i j
     unfold joinR
     have := h.pos j hj
     split <;> omega
   show joinR s.1 f i (joinR s.1 f i j) = joinR s.1 f i j
   have b1 := h.idem j hj
   unfold joinR
   by_cases q : s.1 j = max (s.1 f) (s.1 i)
   · rw [if_pos q]
     rcases Int.le_total (s.1 f) (s.1 i) with e | e
     · rw [Int.min_eq_left e, a3]; split <;> rfl
     rw [Int.min_eq_right e, a4]; split <;> rfl
   rw [if_neg q, b1, if_neg q]
 refine ⟨h.pos, h.idem, fun z f hz => ?_⟩
 have hz : (if z = w then some i else s.2 z) = some f := hz
 split at hz
 · cases hz; exact h0
 exact h.fs z f hz
theorem clM_run (u v : Int) (l : List Lk) : ∀ i : Nat, ClM (clRun u v l i)
 | 0 => ⟨fun j h => h, fun j h => rfl, fun w f h => by cases h⟩
 | i + 1 => clM_step (by omega) (clM_step (by omega) (clM_run u v l i))
theorem clR_pos {u v : Int} {l : List Lk} {j : Int} (h : 0 ≤ j) : 0 ≤ clR u v l j := (clM_run u v l l.length).pos j h
theorem clR_idem {u v : Int} {l : List Lk} {j : Int} (h : 0 ≤ j) : clR u v l (clR u v l j) = clR u v l j := (clM_run u v l l.length).idem j h
structure Bf (l : List Lk) (u v i k t : Int) (c : List Int) : Prop where
 nd : c.Nodup
 fst : i ∈ c
 cn : ∀ x ∈ c, 0 ≤ x ∧ x < (l.length : Int) ∧ Cn l u v i x
 k0 : 0 ≤ k
 kn : k ≤ (c.length : Int)
 cl : ∀ q : Nat, (q : Int) < k → ∀ j, 0 ≤ j → j < (l.length : Int) → touchK (lkAt l (c.getD q 0)) (lkAt l j) u v → j ∈ c
 ct : ∀ j, 0 ≤ j → j < t → touchK (lkAt l (c.getD k.toNat 0)) (lkAt l j) u v → j ∈ c
section
variable {l : List Lk} {u v i k t : Int} {c : List Int}
structure Dn (l : List Lk) (u v i : Int) (d : List Int) (out : List (List Int)) : Prop where
 nd : d.Nodup
 mem : ∀ x, x ∈ d ↔ (0 ≤ x ∧ x < (l.length : Int)) ∧ clR u v l x < i
 out : out = (rootsTo (clR u v l) i).map fun r => (upto (l.length : Int)).filter fun j => decide (clR u v l j = r)
end
end Go.Proofs.Ytahonnlgkmimlaa
namespace Go.Proofs.Ytahonnlgkmimlaa
open Go.RowKit
end Go.Proofs.Ytahonnlgkmimlaa
namespace Go.Proofs.Ytahonnlgkmimlaa
open Go.RowKit
structure RvI (l : List Lk) (i : Int) (e : List Int) : Prop where
 asc : Asc e
 mem : ∀ x, x ∈ e ↔ x ∈ endsK (l.take i.toNat)
 len : (e.length : Int) ≤ 2 * i
def ringR (l : List Lk) : Bool := decide (2 ≤ (l.length : Int)) && decide (((vertsL l).length : Int) = (l.length : Int))
def spC (l : List Lk) (u v : Int) (cs : List (List Int)) : List (Int × Int × List Int) := candC l u v cs
def spV (l : List Lk) (u : Int) (vs : List Int) : List (Int × Int × List Int) := candV l u vs
def spU (l : List Lk) : List Int → List (Int × Int × List Int)
 | [] => []
 | u :: us => candV l u us ++ spU l us
def splitsR (l : List Lk) : List (Int × Int × List Int) := if ringR l = true then [] else spU l (vertsL l)
def kindR (l : List Lk) : Int := if (l.length : Int) = 1 then 0 else if ringR l = true then 1 else if ((vertsL l).length : Int) = 2 then 2 else if ((splitsR l).length : Int) = 0 then 3 else 4
end Go.Proofs.Ytahonnlgkmimlaa
namespace Go.Proofs.Ytahonnlgkmimlaa
open Go.RowKit
end Go.Proofs.Ytahonnlgkmimlaa
namespace Go.Proofs.Ytahonnlgkmimlaa
open Go.RowKit
theorem solid_ref {n : Int} {E : List (Int × Int)} {V L : List Int} (h : partE n E V L = 0) :
   (decide (((blocksL n E V L).length : Int) = 1) && (decide (((blocksL n E V L).getD (0 : Int).toNat ([], [])).1 = V) && decide (((blocksL n E V L).getD (0 : Int).toNat ([], [])).2 = L))) = solidB n E V L := by
 unfold solidB blocksE
 rw [if_neg (by omega), h]
 simp
theorem eK_len (l : List Lk) : (eK l).length = l.length := by simp [eK]
theorem eK_getD {l : List Lk} {i : Nat} (h : i < l.length) : (eK l).getD i (0, 0) = ((l.getD i (0, (0, 0))).1, (l.getD i (0, (0, 0))).2.1) := by
 unfold eK
 rw [List.getD_eq_getElem?_getD, List.getElem?_map, List.getElem?_eq_getElem h, List.getD_eq_getElem?_getD, List.getElem?_eq_getElem h]; rfl
theorem ends_eK (l : List Lk) : endsL (eK l) (upto (l.length : Int)) = endsK l := by
 have key : ∀ k : Nat, k ≤ l.length → endsL (eK l) (upto (k : Int)) = endsK (l.take k) := by
   intro k
   induction k with
   | zero => intro _; rfl
   | succ k ih =>
     intro hk
     have e := endsK_snoc (l := l) (i := (k : Int)) (by omega) (by omega)
     rw [show ((k : Int) + 1).toNat = k + 1 by omega, Int.toNat_natCast] at e
     rw [show ((k + 1 : Nat) : Int) = (k : Int) + 1 by omega, upto_succ (by omega), e, ← ih (by omega)]
     unfold endsL
     rw [List.flatMap_append, List.flatMap_cons, List.flatMap_nil, List.append_nil, Int.toNat_natCast, eK_getD (by omega)]
     rfl
 have := key l.length (Nat.le_refl _)
 rwa [List.take_length] at this
theorem span_K {l : List Lk} (h : rightE (nK l) (eK l) = 0) : spanE (nK l) (eK l) (upto (l.length : Int)) = ((vertsL l, upto (l.length : Int)), 0) := by
 unfold spanE
 rw [if_neg (by omega), if_neg (fun q => q (upto_rises (by rw [eK_len]; omega))), ends_eK]; rfl
theorem wholeR_K {l : List Lk} (h : okWh l) (h2 : rightE (nK l) (eK l) = 0) : wholeR l = (((nK l, eK l), (vertsL l, upto (l.length : Int))), true) := by
 rw [wholeR_ok h, span_K h2]; rfl
theorem rk_ok {l : List Lk} (h : okWh l) (h2 : rightE (nK l) (eK l) = 0) : rightK l = solidB (nK l) (eK l) (vertsL l) (upto (l.length : Int)) := by
 unfold rightK; rw [wholeR_K h h2]; rfl
theorem rk_wh {l : List Lk} (h : rightK l = true) : okWh l ∧ rightE (nK l) (eK l) = 0 := by
 unfold rightK at h
 rw [Bool.and_eq_true] at h
 have hW := whole_facts h.1 h.2
 refine ⟨hW.wh, ?_⟩
 have h1 := h.1
 rw [wholeR_ok hW.wh] at h1
 have h1 : (spanE (nK l) (eK l) (upto (l.length : Int))).2 = 0 := of_decide_eq_true h1
 unfold spanE at h1
 by_cases q : rightE (nK l) (eK l) = 0
 · exact q
 rw [if_pos q] at h1; exact h1
theorem part_K {l : List Lk} (h2 : rightE (nK l) (eK l) = 0) : partE (nK l) (eK l) (vertsL l) (upto (l.length : Int)) = 0 := by
 obtain ⟨a, b, c, d⟩ := rightE_0 h2
 refine part_iff.2 ⟨h2, ?_, upto_rises (by rw [eK_len]; omega), fun e he v hv => ?_⟩
 · obtain ⟨h3, h4⟩ := compact_sort (endsK l)
   refine rises_iff.2 ⟨h3, fun x hx => ?_⟩
   have hx := (h4 x).1 hx
   rw [← ends_eK] at hx
   obtain ⟨e, he, ht⟩ := mem_endsL.1 hx
   have he := mem_upto.1 he
   have hk := d e.toNat (by rw [eK_len]; omega)
   unfold okE at hk
   rcases ht with ht | ht <;> omega
 obtain ⟨h3, h4⟩ := compact_sort (endsK l)
 refine (h4 v).2 ?_
 rw [← ends_eK]
 exact mem_endsL.2 ⟨e, he, hv⟩
section
variable {l : List Lk} {E C : List Int} {i k j u v : Int} {out r X : List (Int × Int × List Int)}
end
end Go.Proofs.Ytahonnlgkmimlaa
namespace Go.Proofs.Ytahonnlgkmimlaa
open Go.RowKit
end Go.Proofs.Ytahonnlgkmimlaa
namespace Go.Proofs.Ytahonnlgkmimlaa
open Go.RowKit
end Go.Proofs.Ytahonnlgkmimlaa
namespace Go.Proofs.Ytahonnlgkmimlaa
open Go.RowKit
end Go.Proofs.Ytahonnlgkmimlaa
namespace Go.Proofs.Ytahonnlgkmimlaa
open Go.RowKit
end Go.Proofs.Ytahonnlgkmimlaa
namespace Go.Proofs.Ytahonnlgkmimlaa
open Go.RowKit
end Go.Proofs.Ytahonnlgkmimlaa
namespace Go.Proofs.Ytahonnlgkmimlaa
open Go.RowKit
end Go.Proofs.Ytahonnlgkmimlaa
namespace Go.Proofs.Ytahonnlgkmimlaa
open Go.RowKit
end Go.Proofs.Ytahonnlgkmimlaa
namespace Go.Proofs.Ytahonnlgkmimlaa
open Go.RowKit
def awL : List Lk := [(0, (1, 0)), (1, (2, 1)), (2, (3, 2)), (3, (0, 3)), (0, (2, 4))]
theorem awL_whole : wholeR awL = (((4, [(0, 1), (1, 2), (2, 3), (3, 0), (0, 2)]), ([0, 1, 2, 3], [0, 1, 2, 3, 4])), true) := by
 have h1 : okWh awL := by decide +kernel
 have h2 : rightE (nK awL) (eK awL) = 0 := by decide +kernel
 rw [wholeR_ok h1, spanE_ok h2 (by decide +kernel)]
 decide +kernel
theorem awL_first : firstK awL = some (0, (2, [0, 1])) := by
 unfold firstK rightK candU besK
 rw [awL_whole]
 decide +kernel
theorem awL_wf : WfL awL := by
 intro i h0 h1
 have h1 : i < 5 := h1
 have : i = 0 ∨ i = 1 ∨ i = 2 ∨ i = 3 ∨ i = 4 := by omega
 unfold wfI
 rcases this with rfl | rfl | rfl | rfl | rfl <;> decide +kernel
theorem aw_giv {S : Stab} {w : World} {v : Value} (h : ∃ sd, v = .tuple #[.agg #[.int .i64 (firstD awL).1, .int .i64 (firstD awL).2.1, sd], .bool (firstK awL).isSome] ∧ Rd S w sd (firstD awL).2.2) :
   ∃ sd, v = .tuple #[.agg #[.int .i64 0, .int .i64 2, sd], .bool true] ∧ Rd S w sd ([0, 1] : List Int) := by
 unfold firstD at h; rw [awL_first] at h; exact h
def offM (l : List Lk) (sd : List Int) (i : Int) : List Lk := ((upto i).filter fun j => decide (j ∈ sd)).map fun j => l.getD j.toNat (0, (0, 0))
def restM (l : List Lk) (sd : List Int) (i : Int) : List Lk := ((upto i).filter fun j => !decide (j ∈ sd)).map fun j => l.getD j.toNat (0, (0, 0))
theorem of_any (vl : Value) (l : List (Int × Int × Int)) (o : Orig) (hL : Rd (· < o.w.heap.size) o.w vl l) (hs : l.length ≤ 100000) :
 Calls Try.prog 57 [vl].toArray o.w (Giv o (fun S v w' => Rd S w' v (l))) := by
 refine enter Try.f57 31 Try.func57 fun a hA => ?_
 replace hA := env_sub [(0, vl)] hA
 have H := Fr.start o
 refine go_seq fun K1 hK1 => ?_
 refine q_reg [] [(0, vl)] (TT ∧ True) hA H ⟨tv, tv⟩ fun a w2 hA H hG => ?_
 refine hK1 _ _ ?_
 refine go_seq fun K3 hK3 => ?_
 refine q_reg [] [(0, vl), (3, (.slice none 0 0))] (TT ∧ True) hA H ⟨tv, tv⟩ fun a w4 hA H hG => ?_
 refine hK3 _ _ ?_
 refine go_seq fun K5 hK5 => ?_
 refine go_seq fun K6 hK6 => ?_
 refine q_reg [] [(0, vl), (3, (.slice none 0 0)), (4, iv 0)] (TT ∧ True) hA H ⟨tv, tv⟩ fun a w7 hA H hG => ?_
 refine hK6 _ _ ?_
 refine go_block 0 ?_
 replace H := H.newRow (α := Int × Int × Int) 92
 refine go_loop_ (Int × Value × List (Int × Int × Int)) (fun x_ a W => (fun (i : Int) (vr : Value) (e : List (Int × Int × Int)) => EnvOk 31 a (keepEnv [(0, vl), (3, vr), (4, iv i)]) ∧ (∃ S, Fr o W S [.row 92 vr e]) ∧ 0 ≤ i ∧ i ≤ (l.length : Int) ∧ (e.length : Int) ≤ i ∧ e = l.take i.toNat) x_.1 x_.2.1 x_.2.2) (fun x_ => (fun (i : Int) (vr : Value) (e : List (Int × Int × Int)) => ((l.length : Int) - i).toNat) x_.1 x_.2.1 x_.2.2) (0, .slice none 0 0, []) ?_ (fun x_ a w9 hI => ?_)
 · (try dsimp only); exact ⟨env_sub _ hA, ⟨_, H⟩, by omega, by omega, by simp, by simp⟩
 obtain ⟨i, vr, e⟩ := x_
 obtain ⟨hA, ⟨S, H⟩, h0, h0b, h1, hi⟩ := hI
 try dsimp only at h0 h0b h1 hi
 replace H : Fr _ _ _ [.row 92 vr e] := H
 refine go_seq fun K10 hK10 => ?_
 refine go_seq fun K11 hK11 => ?_
 refine q_reg [(7, iv (l.length : Int))] [(0, vl), (3, vr), (4, iv i), (8, .bool (decide (i < (l.length : Int))))] (TT ∧ TT ∧ (LenOk vl (l.length : Int)) ∧ TT ∧ True) hA H ⟨tv, tv, by exact len_ok (H.arg hL), tv, tv⟩ fun a w12 hA H hG => ?_
 refine hK11 _ _ ?_
 refine go_cond hA (.tmp 8) (decide (i < (l.length : Int))) (fun hb13 => ?_) (fun hb13 => ?_)
 · have hhb13 := of_decide_eq_true hb13
   refine go_skip ?_
   refine hK10 _ _ ?_
   refine go_seq fun K14 hK14 => ?_
   refine go_block 1 ?_
   have H0 := H
   have hM0 := H0.keeps vr.ownBlock (.inr ⟨_, List.mem_of_getElem? (i := 0) rfl, rfl⟩)
   refine region_mix (But w12 vr.ownBlock) [0, 1, 2, 3, 4, 5, 6, 7, 8, 9, 10, 11, 12, 13, 14, 15, 16, 17, 18] 20 ?_
   replace H := H.drawn; have hD := But.drew w12 vr.ownBlock
   generalize ({ w12 with drawn := w12.drawn + 1 } : World) = w15 at H hD ⊢
   refine m_take (n := 3) [0, 1, 2, 3, 4, 5, 6, 7, 8, 9, 10, 11, 12, 13, 14, 15, 16] #[true, true, true, true, true, true, true, true, true, true, true, true, true, true, true, true, true, false, false, false] [(16, iv ((l.getD i.toNat (0, (0, 0))).1)), (21, iv (((l.getD i.toNat (0, (0, 0))).2).1)), (26, iv (((l.getD i.toNat (0, (0, 0))).2).2)), (27, .agg #[.int .i64 ((l.getD i.toNat (0, (0, 0))).1), .int .i64 (((l.getD i.toNat (0, (0, 0))).2).1), .int .i64 (((l.getD i.toNat (0, (0, 0))).2).2)])] [(0, vl), (3, vr), (4, iv i), (11, vr), (27, .agg #[.int .i64 ((l.getD i.toNat (0, (0, 0))).1), .int .i64 (((l.getD i.toNat (0, (0, 0))).2).1), .int .i64 (((l.getD i.toNat (0, (0, 0))).2).2)])] (TT ∧ TT ∧ TT ∧ ((Try.prog.info? 113).isSome = true ∧ IdxOk vl i) ∧ (0 < Try.prog.cellsOf 3) ∧ (CellOk (But w12 vr.ownBlock) (hdB vl) (hdO vl + i.toNat * 3 + 0) (.int .i64 ((l.getD i.toNat (0, (0, 0))).1))) ∧ TT ∧ TT ∧ ((Try.prog.info? 113).isSome = true ∧ IdxOk vl i) ∧ (0 < Try.prog.cellsOf 3) ∧ (CellOk (But w12 vr.ownBlock) (hdB vl) (hdO vl + i.toNat * 3 + 1) (.int .i64 (((l.getD i.toNat (0, (0, 0))).2).1))) ∧ TT ∧ TT ∧ ((Try.prog.info? 113).isSome = true ∧ IdxOk vl i) ∧ (0 < Try.prog.cellsOf 3) ∧ (CellOk (But w12 vr.ownBlock) (hdB vl) (hdO vl + i.toNat * 3 + 2) (.int .i64 (((l.getD i.toNat (0, (0, 0))).2).2))) ∧ (∀ w, (Instr.build 92 #[(0, iv ((l.getD i.toNat (0, (0, 0))).1)), (1, iv (((l.getD i.toNat (0, (0, 0))).2).1)), (2, iv (((l.getD i.toNat (0, (0, 0))).2).2))]).run Try.prog w = .ok (.agg #[.int .i64 ((l.getD i.toNat (0, (0, 0))).1), .int .i64 (((l.getD i.toNat (0, (0, 0))).2).1), .int .i64 (((l.getD i.toNat (0, (0, 0))).2).2)]) w) ∧ True) hA hD ⟨tv, tv, tv, ⟨by kernel_rfl, by exact idx_ok (H0.argT hL) (by omega) (by omega)⟩, by decide +kernel, by exact cell_flatC hM0 (i := i) (H0.argT hL) (by omega) (by omega) (0, (0, 0)) 0, tv, tv, ⟨by kernel_rfl, by exact idx_ok (H0.argT hL) (by omega) (by omega)⟩, by decide +kernel, by exact cell_flatC hM0 (i := i) (H0.argT hL) (by omega) (by omega) (0, (0, 0)) 1, tv, tv, ⟨by kernel_rfl, by exact idx_ok (H0.argT hL) (by omega) (by omega)⟩, by decide +kernel, by exact cell_flatC hM0 (i := i) (H0.argT hL) (by omega) (by omega) (0, (0, 0)) 2, fun w => by kernel_rfl, tv⟩ fun a hA => ?_
   refine m_one 17 ?_; refine q_lit 17 28 69 1 #[(0, .tmp 27)] 92 [(0, .agg #[.int .i64 ((l.getD i.toNat (0, (0, 0))).1), .int .i64 (((l.getD i.toNat (0, (0, 0))).2).1), .int .i64 (((l.getD i.toNat (0, (0, 0))).2).2)])] [.int .i64 ((l.getD i.toNat (0, (0, 0))).1), .int .i64 (((l.getD i.toNat (0, (0, 0))).2).1), .int .i64 (((l.getD i.toNat (0, (0, 0))).2).2)] [(0, vl), (3, vr), (4, iv i), (11, vr)] hA H fun b16 a w17 H hA hG hge_b16 => ?_
   replace hge_b16 := Nat.le_trans hD.1 hge_b16
   replace hD := hD.below hG
   refine ⟨fun _ => hD, ?_⟩
   refine m_one 18 ?_; refine q_push 18 29 (.tmp 11) (.tmp 28) 1 0 b16 1 1 vr e [((l.getD i.toNat (0, (0, 0))).1, (((l.getD i.toNat (0, (0, 0))).2).1, ((l.getD i.toNat (0, (0, 0))).2).2))] [.int .i64 ((l.getD i.toNat (0, (0, 0))).1), .int .i64 (((l.getD i.toNat (0, (0, 0))).2).1), .int .i64 (((l.getD i.toNat (0, (0, 0))).2).2)] [(0, vl), (3, vr), (4, iv i)] hA H Try.E69 rfl rfl (by exact (RowRd.single (α := Int × Int × Int) ⟨[_], _, rfl, rfl, ⟨[_], _, rfl, rfl, rfl⟩⟩)) rfl (by simp only [List.length_cons, List.length_nil, List.length_append]; omega) (by decide) fun v18 a w19 H hA hG => ?_
   replace H : Fr _ _ _ [.row 92 v18 (e ++ [((l.getD i.toNat (0, (0, 0))).1, (((l.getD i.toNat (0, (0, 0))).2).1, ((l.getD i.toNat (0, (0, 0))).2).2))])] := H.drop 0
   replace hD := hD.grown hG (fun b hb => .inl hb.symm)
   refine ⟨fun _ => hD, ?_⟩
   refine m_one 19 ?_; refine q_one 19 [] [(0, vl), (3, v18), (4, iv i)] (TT ∧ True) hA H ⟨tv, tv⟩ fun a w20 H hA hG => ?_
   refine ⟨fun h => absurd h (by decide), ?_⟩
   refine m_end ?_
   refine hK14 _ _ ?_
   refine q_reg [] [(0, vl), (3, v18), (4, iv (i + 1))] (TT ∧ (InR .i64 (i + 1)) ∧ TT ∧ True) hA H ⟨tv, ⟨by omega, by omega⟩, tv, tv⟩ fun a w21 hA H hG => ?_
   refine ⟨(i + 1, v18, e ++ [((l.getD i.toNat (0, (0, 0))).1, (((l.getD i.toNat (0, (0, 0))).2).1, ((l.getD i.toNat (0, (0, 0))).2).2))]), ⟨env_sub _ hA, ⟨_, H⟩, ?_⟩, ?_⟩
   · (try dsimp only); exact ⟨by omega, by omega, by (try simp only [List.length_append, List.length_cons, List.length_nil]); omega, by rw [take_snocK h0 (by omega), ← hi]⟩
   (try dsimp only); omega
 have hhb13 := of_decide_eq_false hb13
 refine go_exit 0 ?_
 refine hK5 _ _ ?_
 refine go_seq fun K22 hK22 => ?_
 refine q_reg [] [(2, vr)] (TT ∧ TT ∧ True) hA H ⟨tv, tv, tv⟩ fun a w23 hA H hG => ?_
 refine hK22 _ _ ?_
 refine go_ret_ ?_
 refine ret_one 2 vr hA ?_
 have ho := (H.give 0 rfl)
 rw [List.take_of_length_le (by omega)] at hi; rw [hi] at ho; exact ⟨_, rfl, ho, H.below⟩
theorem awakeP_any  (w : World) :
 Calls Try.prog 55 [].toArray w (Ans (.bool true) w) := by
 refine enter Try.f55 30 Try.func55 fun a hA => ?_
 replace hA := env_sub [] hA
 have H := Fr.start (org w)
 refine go_seq fun K1 hK1 => ?_
 refine q_reg [] [] (TT ∧ True) hA H ⟨tv, tv⟩ fun a w2 hA H hG => ?_
 refine hK1 _ _ ?_
 refine go_seq fun K3 hK3 => ?_
 refine region_list ?_
 refine q_list 0 5 [(4, .agg #[.int .i64 0, .int .i64 1, .int .i64 0]), (5, .agg #[.int .i64 1, .int .i64 2, .int .i64 1]), (6, .agg #[.int .i64 2, .int .i64 3, .int .i64 2]), (7, .agg #[.int .i64 3, .int .i64 0, .int .i64 3]), (8, .agg #[.int .i64 0, .int .i64 2, .int .i64 4])] [(4, .agg #[.int .i64 0, .int .i64 1, .int .i64 0]), (5, .agg #[.int .i64 1, .int .i64 2, .int .i64 1]), (6, .agg #[.int .i64 2, .int .i64 3, .int .i64 2]), (7, .agg #[.int .i64 3, .int .i64 0, .int .i64 3]), (8, .agg #[.int .i64 0, .int .i64 2, .int .i64 4])] ((∀ w, (Instr.build 92 #[(0, iv 0), (1, iv 1), (2, iv 0)]).run Try.prog w = .ok (.agg #[.int .i64 0, .int .i64 1, .int .i64 0]) w) ∧ (∀ w, (Instr.build 92 #[(0, iv 1), (1, iv 2), (2, iv 1)]).run Try.prog w = .ok (.agg #[.int .i64 1, .int .i64 2, .int .i64 1]) w) ∧ (∀ w, (Instr.build 92 #[(0, iv 2), (1, iv 3), (2, iv 2)]).run Try.prog w = .ok (.agg #[.int .i64 2, .int .i64 3, .int .i64 2]) w) ∧ (∀ w, (Instr.build 92 #[(0, iv 3), (1, iv 0), (2, iv 3)]).run Try.prog w = .ok (.agg #[.int .i64 3, .int .i64 0, .int .i64 3]) w) ∧ (∀ w, (Instr.build 92 #[(0, iv 0), (1, iv 2), (2, iv 4)]).run Try.prog w = .ok (.agg #[.int .i64 0, .int .i64 2, .int .i64 4]) w) ∧ True) hA H ⟨fun w => by kernel_rfl, fun w => by kernel_rfl, fun w => by kernel_rfl, fun w => by kernel_rfl, fun w => by kernel_rfl, tv⟩ fun a w4 hA H hG => ?_
 refine list_at 5 ?_; refine q_lit 5 9 69 5 #[(0, .tmp 4), (1, .tmp 5), (2, .tmp 6), (3, .tmp 7), (4, .tmp 8)] 92 [(0, .agg #[.int .i64 0, .int .i64 1, .int .i64 0]), (1, .agg #[.int .i64 1, .int .i64 2, .int .i64 1]), (2, .agg #[.int .i64 2, .int .i64 3, .int .i64 2]), (3, .agg #[.int .i64 3, .int .i64 0, .int .i64 3]), (4, .agg #[.int .i64 0, .int .i64 2, .int .i64 4])] [.int .i64 0, .int .i64 1, .int .i64 0, .int .i64 1, .int .i64 2, .int .i64 1, .int .i64 2, .int .i64 3, .int .i64 2, .int .i64 3, .int .i64 0, .int .i64 3, .int .i64 0, .int .i64 2, .int .i64 4] [] hA H fun b5 a w6 H hA hG hge_b5 => ?_
 clear hge_b5
 refine list_at 6 ?_; refine q_call 6 10 65 #[.tmp 9] #[69] [(.slice (some ⟨b5, 0, none⟩) 5 5)] (fun S v_ w' => ∃ sd, v_ = .tuple #[.agg #[.int .i64 0, .int .i64 2, sd], .bool true] ∧ Rd S w' sd ([0, 1] : List Int)) [] hA H (by exact ((first_any (.slice (some ⟨b5, 0, none⟩) 5 5) awL H.at ((H.lit 0 rfl (l := ([(0, (1, 0)), (1, (2, 1)), (2, (3, 2)), (3, (0, 3)), (0, (2, 4))] : List (Int × Int × Int))) (by exact (((((RowRd.single (α := Int × Int × Int) (a := (0, (1, 0))) (by exact ⟨[_], _, rfl, rfl, ⟨[_], _, rfl, rfl, rfl⟩⟩)).append (RowRd.single (α := Int × Int × Int) (a := (1, (2, 1))) (by exact ⟨[_], _, rfl, rfl, ⟨[_], _, rfl, rfl, rfl⟩⟩))).append (RowRd.single (α := Int × Int × Int) (a := (2, (3, 2))) (by exact ⟨[_], _, rfl, rfl, ⟨[_], _, rfl, rfl, rfl⟩⟩))).append (RowRd.single (α := Int × Int × Int) (a := (3, (0, 3))) (by exact ⟨[_], _, rfl, rfl, ⟨[_], _, rfl, rfl, rfl⟩⟩))).append (RowRd.single (α := Int × Int × Int) (a := (0, (2, 4))) (by exact ⟨[_], _, rfl, rfl, ⟨[_], _, rfl, rfl, rfl⟩⟩)))) (n := 5) rfl (by decide))) (by decide) awL_wf).mono fun e w' ⟨v, h1, h2, h3⟩ => ⟨v, h1, aw_giv h2, h3⟩)) fun v7 a w8 S hR9 H hA hG => ?_
 obtain ⟨v7s, rfl, hR9s⟩ := hR9
 replace H := H.ro hR9s
 replace H : Fr _ _ _ [.ro v7s ([0, 1] : List Int), .box b5 92 [.int .i64 0, .int .i64 1, .int .i64 0, .int .i64 1, .int .i64 2, .int .i64 1, .int .i64 2, .int .i64 3, .int .i64 2, .int .i64 3, .int .i64 0, .int .i64 3, .int .i64 0, .int .i64 2, .int .i64 4]] := H
 refine q_list 7 3 [] [(11, .agg #[.int .i64 0, .int .i64 2, v7s]), (12, .bool true)] (TT ∧ TT ∧ TT ∧ True) hA H ⟨tv, tv, tv, tv⟩ fun a w11 hA H hG => ?_
 refine list_at 10 ?_; refine q_alloc 10 1 81 [.int .i64 0, .int .i64 0, (.slice none 0 0)] [(11, .agg #[.int .i64 0, .int .i64 2, v7s]), (12, .bool true)] hA H fun b12 a w13 H hA hG hge_b12 => ?_
 clear hge_b12
 refine list_at 11 ?_; refine q_store 11 81 (.tmp 1) (.tmp 11) 0 b12 (0) 81 [.int .i64 0, .int .i64 0, (.slice none 0 0)] [.int .i64 0, .int .i64 2, v7s] [.int .i64 0, .int .i64 2, v7s] (.agg #[.int .i64 0, .int .i64 2, v7s]) [(1, pv b12), (12, .bool true)] hA H rfl rfl (Nat.le_of_ble_eq_true (by kernel_rfl)) rfl (fun v hv => by simp only [List.mem_cons, List.not_mem_nil, or_false] at hv; rcases hv with rfl | rfl | rfl; exact rfl; exact rfl; exact (rd_one (H.get 1 rfl))) fun a w14 H hA hG => ?_
 replace H : Fr _ _ _ [.box b12 81 [.int .i64 0, .int .i64 2, v7s], .ro v7s ([0, 1] : List Int), .box b5 92 [.int .i64 0, .int .i64 1, .int .i64 0, .int .i64 1, .int .i64 2, .int .i64 1, .int .i64 2, .int .i64 3, .int .i64 2, .int .i64 3, .int .i64 0, .int .i64 3, .int .i64 0, .int .i64 2, .int .i64 4]] := H
 refine q_list 12 1 [] [(1, pv b12), (2, .bool true)] (TT ∧ True) hA H ⟨tv, tv⟩ fun a w15 hA H hG => ?_
 refine list_end ?_
 refine hK3 _ _ ?_
 refine go_seq fun K16 hK16 => ?_
 refine region_list ?_
 refine q_list 0 12 [(16, iv 0), (21, iv 2)] [(1, pv b12), (24, .bool ((decide ((0 : Int) = 0)) && (decide ((2 : Int) = 2))))] (TT ∧ TT ∧ ((true) = true → 0 < Try.prog.cellsOf 3) ∧ ((true) = true → CellOk (On w15) b12 (0 + 0) (.int .i64 0)) ∧ ((true) = true → True) ∧ TT ∧ TT ∧ ((decide ((0 : Int) = 0)) = true → 0 < Try.prog.cellsOf 3) ∧ ((decide ((0 : Int) = 0)) = true → CellOk (On w15) b12 (0 + 1) (.int .i64 2)) ∧ ((decide ((0 : Int) = 0)) = true → True) ∧ TT ∧ TT ∧ True) hA H ⟨tv, tv, fun _ => by decide +kernel, fun _ => by exact box_cell H 0 rfl 0, fun _ => tv, tv, tv, fun _ => by decide +kernel, fun _ => by exact box_cell H 0 rfl 1, fun _ => tv, tv, tv, tv⟩ fun a w17 hA H hG => ?_
 refine q_listK [(24, true)] 12 2 [(26, v7s)] [(24, .bool ((decide ((0 : Int) = 0)) && (decide ((2 : Int) = 2)))), (26, v7s)] ((((((decide ((0 : Int) = 0)) && (decide ((2 : Int) = 2))) = true) ∧ True) ∧ (0 < Try.prog.cellsOf 27)) ∧ (((((decide ((0 : Int) = 0)) && (decide ((2 : Int) = 2))) = true) ∧ True) ∧ (CellOk (On w17) b12 (0 + 2) (v7s))) ∧ True) hA H ⟨⟨⟨(by simp []), tv⟩, by decide +kernel⟩, ⟨⟨(by simp []), tv⟩, by exact box_cell H 0 rfl 2⟩, tv⟩ fun a w18 hA H hG => ?_
 refine list_at 14 ?_; refine op_on [(24, true)] ((((decide ((0 : Int) = 0)) && (decide ((2 : Int) = 2))) = true) ∧ True) hA ⟨(by simp []), tv⟩ ?_; refine q_lit 14 27 27 2 #[(0, .const (.int .i64 0)), (1, .const (.int .i64 1))] 3 [(0, iv 0), (1, iv 1)] [.int .i64 0, .int .i64 1] [(24, .bool ((decide ((0 : Int) = 0)) && (decide ((2 : Int) = 2)))), (26, v7s)] hA H fun b19 a w20 H hA hG hge_b19 => ?_
 clear hge_b19
 refine q_listK [(24, true)] 15 3 [(28, .bool (decide (([0, 1] : List Int) = ([0, 1] : List Int))))] [(0, .bool (decide (([0, 1] : List Int) = ([0, 1] : List Int))))] ((((((decide ((0 : Int) = 0)) && (decide ((2 : Int) = 2))) = true) ∧ True) ∧ (Callable Try.prog 36 ∧ CallOk Try.prog (On w20) 36 [v7s, (.slice (some ⟨b19, 0, none⟩) 2 2)].toArray (.bool (decide (([0, 1] : List Int) = ([0, 1] : List Int)))))) ∧ (TT ∧ (((decide ((0 : Int) = 0)) && (decide ((2 : Int) = 2))) = true)) ∧ (TT ∧ (True)) ∧ True) hA H ⟨⟨⟨(by simp []), tv⟩, ⟨callable_of, callOk_of fun w hw => by exact requal_any v7s (.slice (some ⟨b19, 0, none⟩) 2 2) ([0, 1] : List Int) ([0, 1] : List Int) w (((H.on hw).get 2 rfl)) (((H.on hw).lit 0 rfl (l := ([0, 1] : List Int)) (by exact ((RowRd.single (α := Int) (a := 0) (by exact rfl)).append (RowRd.single (α := Int) (a := 1) (by exact rfl)))) (n := 2) rfl (by decide)))⟩⟩, ⟨tv, (by simp [])⟩, ⟨tv, tv⟩, tv⟩ fun a w21 hA H hG => ?_
 refine list_end ?_
 refine hK16 _ _ ?_
 refine go_ret_ ?_
 refine ret_one 0 (.bool (decide (([0, 1] : List Int) = ([0, 1] : List Int)))) hA ?_
 exact ans_b' (by decide +kernel) H.below
theorem verts_asc (l : List Lk) : Asc (vertsL l) := (compact_sort (endsK l)).1
theorem mem_verts {l : List Lk} {x : Int} : x ∈ vertsL l ↔ x ∈ endsK l := (compact_sort (endsK l)).2 x
theorem verts_rises {l : List Lk} (h : okWh l) : risesP (vertsL l) 1024 := by
 refine rises_iff.2 ⟨verts_asc l, fun x hx => ?_⟩
 obtain ⟨y, hy, hxy⟩ := List.mem_flatMap.1 (mem_verts.1 hx)
 obtain ⟨j, hj, rfl⟩ := List.getElem_of_mem hy
 have h9 := h j hj
 unfold okLk at h9
 rw [List.getD_eq_getElem?_getD, List.getElem?_eq_getElem hj, Option.getD_some] at h9
 simp only [List.mem_cons, List.not_mem_nil, or_false] at hxy
 rcases hxy with e | e <;> omega
theorem hasB_verts {l : List Lk} (h : rightK l = true) (x : Int) : hasB (vertsL l) x = decide (x ∈ vertsL l) := hasB_mem (verts_rises (rk_wh h).1)
theorem pcl_yes {l : List Lk} {x y : Int} (h : ((rightK l = true ∧ ¬ x = y) ∧ x ∈ vertsL l) ∧ y ∈ vertsL l) : pclassesE l x y = classesL l x y := by
 refine pclassesE_ok ?_
 rw [hasB_verts h.1.1.1, hasB_verts h.1.1.1, decide_eq_true_eq, decide_eq_true_eq]
 exact ⟨⟨⟨h.1.1.2, h.1.2⟩, h.2⟩, h.1.1.1⟩
theorem wfL_of {l : List Lk} (h : ∀ b ∈ l, (-9223372036854775808 ≤ b.1 ∧ b.1 ≤ 9223372036854775807) ∧ (-9223372036854775808 ≤ b.2.1 ∧ b.2.1 ≤ 9223372036854775807) ∧ (-9223372036854775808 ≤ b.2.2 ∧ b.2.2 ≤ 9223372036854775807)) : WfL l := by
 intro i h0 h1
 exact h _ (getD_mem (l := l) (i := i.toNat) (d := (0, (0, 0))) (by omega))
theorem len64 {v : Value} {l : List Lk} {w : World} {S : Stab} (h : Rd S w v l) : l.length ≤ 9223372036854775807 := by have := rd_len h; omega
section
variable {l : List Lk} {u v : Int} {c d : List Int}
theorem cls_form (h : c ∈ classesL l u v) : ∃ r, 0 ≤ r ∧ r < (l.length : Int) ∧ clR u v l r = r ∧ c = (upto (l.length : Int)).filter fun j => decide (clR u v l j = r) := by
 unfold classesL groupsR rootsTo at h
 obtain ⟨r, hr, rfl⟩ := List.mem_map.1 h
 obtain ⟨h1, h2⟩ := List.mem_filter.1 hr
 have h1 := mem_upto.1 h1
 exact ⟨r, h1.1, h1.2, of_decide_eq_true h2, rfl⟩
theorem cls_mem (h : c ∈ classesL l u v) : ∃ r, clR u v l r = r ∧ r ∈ c ∧ ∀ j, j ∈ c ↔ (0 ≤ j ∧ j < (l.length : Int)) ∧ clR u v l j = r := by
 obtain ⟨r, h0, h1, h2, rfl⟩ := cls_form h
 have key : ∀ j, j ∈ (upto (l.length : Int)).filter (fun j => decide (clR u v l j = r)) ↔ (0 ≤ j ∧ j < (l.length : Int)) ∧ clR u v l j = r := fun j => by rw [List.mem_filter, mem_upto, decide_eq_true_eq]
 exact ⟨r, h2, (key r).2 ⟨⟨h0, h1⟩, h2⟩, key⟩
theorem cls_asc (h : c ∈ classesL l u v) : risesP c (l.length : Int) := by
 obtain ⟨r, h0, h1, h2, rfl⟩ := cls_form h
 exact rises_iff.2 ⟨(upto_asc _).sublist List.filter_sublist, fun x hx => mem_upto.1 (List.mem_filter.1 hx).1⟩
theorem cls_ne (h : c ∈ classesL l u v) : c ≠ [] := by
 obtain ⟨r, _, h2, _⟩ := cls_mem h
 intro e; rw [e] at h2; cases h2
theorem cls_uniq (hc : c ∈ classesL l u v) (hd : d ∈ classesL l u v) {x : Int} (h1 : x ∈ c) (h2 : x ∈ d) : c = d := by
 obtain ⟨r, a0, a1, a2, rfl⟩ := cls_form hc
 obtain ⟨s, b0, b1, b2, rfl⟩ := cls_form hd
 have e1 := of_decide_eq_true (List.mem_filter.1 h1).2
 have e2 := of_decide_eq_true (List.mem_filter.1 h2).2
 rw [← e1, ← e2]
theorem cls_of {i : Int} (h0 : 0 ≤ i) (h1 : i < (l.length : Int)) : ∃ c ∈ classesL l u v, i ∈ c := by
 refine ⟨_, List.mem_map.2 ⟨clR u v l i, rootsTo_mem (clR_pos h0) ?_ (clR_idem h0), rfl⟩, List.mem_filter.2 ⟨mem_upto.2 ⟨h0, h1⟩, decide_eq_true rfl⟩⟩
 have := clR_le u v l i; omega
theorem cls_cn (hc : c ∈ classesL l u v) {i j : Int} (hi : i ∈ c) (hj : j ∈ c) : Cn l u v i j := by
 obtain ⟨r, _, _, h⟩ := cls_mem hc
 exact clR_cn (((h i).1 hi).2.trans ((h j).1 hj).2.symm)
theorem cls_cl (hc : c ∈ classesL l u v) {i j : Int} (hi : i ∈ c) (h0 : 0 ≤ j) (h1 : j < (l.length : Int)) (h : Cn l u v i j) : j ∈ c := by
 obtain ⟨r, _, _, hm⟩ := cls_mem hc
 exact (hm j).2 ⟨⟨h0, h1⟩, (cn_clR h).symm.trans ((hm i).1 hi).2⟩
end
theorem right_pos {l : List Lk} (h : rightK l = true) : 0 < l.length := by
 cases l with
 | nil =>
   obtain ⟨h1, h2⟩ := rk_wh h
   rw [rk_ok h1 h2] at h
   exact absurd h (by unfold solidB blocksE blocksL; simp; intros; split <;> simp_all [upto])
 | cons a t => simp
section
variable {l : List Lk} {x y id : Int} {sd : List Int}
end
end Go.Proofs.Ytahonnlgkmimlaa
namespace Go.Proofs.Ytahonnlgkmimlaa
open Go.RowKit
open Go.Proofs.Ytahonnlgkmimlaa.Deep
abbrev grK (l : List Lk) : Gr := ⟨upto (l.length : Int), lkA l, lkB l⟩
theorem eA_K (l : List Lk) : eA (eK l) = lkA l := by
 funext f; unfold eA lkA eK
 rw [List.getD_eq_getElem?_getD, List.getElem?_map, List.getD_eq_getElem?_getD]
 cases l[f.toNat]? <;> rfl
theorem eB_K (l : List Lk) : eB (eK l) = lkB l := by
 funext f; unfold eB lkB eK
 rw [List.getD_eq_getElem?_getD, List.getElem?_map, List.getD_eq_getElem?_getD]
 cases l[f.toNat]? <;> rfl
theorem grK_eq (l : List Lk) : grE (eK l) (upto (l.length : Int)) = grK l := by unfold grK grE; rw [eA_K, eB_K]
theorem noLp {l : List Lk} (h : okWh l) {e : Int} (he : e ∈ upto (l.length : Int)) : ¬ (grK l).lp e := by
 have he := mem_upto.1 he
 have := (h e.toNat (by omega)).2.2.2.1
 exact this
theorem right_tog {l : List Lk} (h : rightK l = true) {e f : Int} (he : e ∈ upto (l.length : Int)) (hf : f ∈ upto (l.length : Int)) (z : Int) : Tog (grK l) z e f := by
 obtain ⟨hw, hre⟩ := rk_wh h
 have hp := part_K hre
 rw [rk_ok hw hre, ← solid_ref hp] at h
 simp only [Bool.and_eq_true, decide_eq_true_eq] at h
 obtain ⟨h1, h2, h3⟩ := h
 have hb : (blocksL (nK l) (eK l) (vertsL l) (upto (l.length : Int))).getD (0 : Int).toNat ([], []) ∈ blocksL (nK l) (eK l) (vertsL l) (upto (l.length : Int)) := getD_mem (by show 0 < _; omega)
 obtain ⟨e0, he0, _, hb2⟩ := block_at hp hb
 rw [hb2] at h3
 have h3 : classL (eK l) (vertsL l) (upto (l.length : Int)) e0 = upto (l.length : Int) := h3
 obtain ⟨_, hc⟩ := class_all hp he0
 rw [h3, grK_eq] at hc
 rcases hc with ⟨_, hl⟩ | ⟨_, hc⟩
 · exact (noLp hw he0 hl).elim
 exact hc e he f hf z
theorem inc_verts {l : List Lk} {e x : Int} (he : e ∈ upto (l.length : Int)) (h : (grK l).inc e x) : x ∈ vertsL l := by
 have he := mem_upto.1 he
 refine mem_verts.2 ?_
 rw [← ends_eK]
 refine mem_endsL.2 ⟨e, mem_upto.2 he, ?_⟩
 rcases h with h | h
 · left; have := congrFun (eA_K l) e; exact this.trans h
 right; have := congrFun (eB_K l) e; exact this.trans h
theorem verts_inc {l : List Lk} {x : Int} (h : x ∈ vertsL l) : ∃ e ∈ upto (l.length : Int), (grK l).inc e x := by
 have h := mem_verts.1 h
 rw [← ends_eK] at h
 obtain ⟨e, he, ht⟩ := mem_endsL.1 h
 refine ⟨e, he, ?_⟩
 rcases ht with ht | ht
 · left; exact (congrFun (eA_K l) e).symm.trans ht
 right; exact (congrFun (eB_K l) e).symm.trans ht
theorem conn {l : List Lk} (h : rightK l = true) {z p q : Int} (hp : p ∈ vertsL l) (hq : q ∈ vertsL l) (hpz : p ≠ z) (hqz : q ≠ z) : (grK l).Rch (· ≠ z) p q := by
 obtain ⟨e, he, hep⟩ := verts_inc hp
 obtain ⟨f, hf, hfq⟩ := verts_inc hq
 obtain ⟨a, b, h1, h2, h3, h4, h5⟩ := right_tog h he hf z
 exact ((ends_rch he hep h1 hpz h2).trans h5).trans (ends_rch hf h3 hfq h4 hqz)
end Go.Proofs.Ytahonnlgkmimlaa
namespace Go.Proofs.Ytahonnlgkmimlaa
open Go.RowKit
open Go.Proofs.Ytahonnlgkmimlaa.Deep
theorem mem_endsK {l : List Lk} {x : Int} : x ∈ endsK l ↔ ∃ y ∈ l, y.1 = x ∨ y.2.1 = x := by
 unfold endsK
 rw [List.mem_flatMap]
 constructor
 · rintro ⟨y, hy, h⟩
   simp only [List.mem_cons, List.not_mem_nil, or_false] at h
   exact ⟨y, hy, h.imp Eq.symm Eq.symm⟩
 rintro ⟨y, hy, h⟩
 refine ⟨y, hy, ?_⟩
 simp only [List.mem_cons, List.not_mem_nil, or_false]
 exact h.imp Eq.symm Eq.symm
theorem mem_takeD {l : List Lk} {i k : Nat} (hi : i < k) (hl : i < l.length) : l.getD i (0, (0, 0)) ∈ l.take k := by
 rw [List.getD_eq_getElem?_getD, List.getElem?_eq_getElem hl]
 exact List.mem_iff_getElem.2 ⟨i, by rw [List.length_take]; omega, by rw [List.getElem_take]; rfl⟩
theorem mem_dropD {l : List Lk} {i k : Nat} (hi : k ≤ i) (hl : i < l.length) : l.getD i (0, (0, 0)) ∈ l.drop k := by
 rw [List.getD_eq_getElem?_getD, List.getElem?_eq_getElem hl]
 refine List.mem_iff_getElem.2 ⟨i - k, by rw [List.length_drop]; omega, ?_⟩
 rw [List.getElem_drop]
 simp only [show k + (i - k) = i by omega]
 rfl
theorem count_two {l : List Lk} {e g v : Int} (he : e ∈ upto (l.length : Int)) (hg : g ∈ upto (l.length : Int)) (hlt : e < g) (h1 : (grK l).inc e v) (h2 : (grK l).inc g v) : 2 ≤ (endsK l).count v := by
 have he := mem_upto.1 he
 have hg := mem_upto.1 hg
 have e1 : endsK l = endsK (l.take (e.toNat + 1)) ++ endsK (l.drop (e.toNat + 1)) := by
   unfold endsK; rw [← List.flatMap_append, List.take_append_drop]
 rw [e1, List.count_append]
 have c1 : 0 < (endsK (l.take (e.toNat + 1))).count v := List.count_pos_iff.2 (mem_endsK.2 ⟨_, mem_takeD (i := e.toNat) (by omega) (by omega), h1⟩)
 have c2 : 0 < (endsK (l.drop (e.toNat + 1))).count v := List.count_pos_iff.2 (mem_endsK.2 ⟨_, mem_dropD (i := g.toNat) (by omega) (by omega), h2⟩)
 omega
theorem first_step {G : Gr} {P : Int → Prop} {v b : Int} (h : G.Rch P v b) (hne : v ≠ b) : ∃ y g, g ∈ G.L ∧ G.joins g v y ∧ P y := by
 induction h with
 | refl _ => exact (hne rfl).elim
 | @step y z h1 ha hz ih =>
   by_cases q : v = y
   · subst q; obtain ⟨g, hg, hj⟩ := ha; exact ⟨z, g, hg, hj, hz⟩
   exact ih q
theorem other_end {l : List Lk} (hw : okWh l) {e v : Int} (he : e ∈ upto (l.length : Int)) (h : (grK l).inc e v) : ∃ w, w ≠ v ∧ (grK l).joins e v w := by
 have hl := noLp hw he
 rcases h with h | h
 · exact ⟨lkB l e, fun q => hl (h.trans q.symm), .inl ⟨h, rfl⟩⟩
 exact ⟨lkA l e, fun q => hl (q.trans h.symm), .inr ⟨rfl, h⟩⟩
theorem two_at {l : List Lk} (h : rightK l = true) (hl : 2 ≤ l.length) {v : Int} {e : Int} (he : e ∈ upto (l.length : Int)) (hv : (grK l).inc e v) : ∃ g ∈ upto (l.length : Int), e ≠ g ∧ (grK l).inc g v := by
 have hw := (rk_wh h).1
 obtain ⟨w, hwv, hj⟩ := other_end hw he hv
 obtain ⟨f, hf, hfe⟩ : ∃ f ∈ upto (l.length : Int), e ≠ f := by
   have := mem_upto.1 he
   by_cases q : e = 0
   · exact ⟨1, mem_upto.2 (by omega), by omega⟩
   exact ⟨0, mem_upto.2 (by omega), q⟩
 obtain ⟨a, b, h1, h2, h3, h4, h5⟩ := right_tog h he hf w
 have ha : a = v := (hj.of h1).resolve_right h2
 subst ha
 by_cases q : a = b
 · subst q; exact ⟨f, hf, hfe, h3⟩
 obtain ⟨y, g, hg, hgj, hy⟩ := first_step h5 q
 refine ⟨g, hg, fun e1 => ?_, hgj.left⟩
 subst e1
 have hy2 : y = a := (hj.of hgj.right).resolve_right hy
 subst hy2
 rcases hgj with ⟨k1, k2⟩ | ⟨k1, k2⟩
 · exact noLp hw he (k1.trans k2.symm)
 exact noLp hw he (k1.trans k2.symm)
theorem deg_two {l : List Lk} (h : rightK l = true) (hl : 2 ≤ l.length) {v : Int} (hv : v ∈ vertsL l) : 2 ≤ (endsK l).count v := by
 obtain ⟨e, he, hi⟩ := verts_inc hv
 obtain ⟨g, hg, hne, hgi⟩ := two_at h hl he hi
 rcases Int.lt_or_gt_of_ne hne with q | q
 · exact count_two he hg q hi hgi
 exact count_two hg he q hgi hi
theorem len_count (v : Int) : ∀ L : List Int, L.length = L.count v + (L.filter fun x => !(x == v)).length
 | [] => rfl
 | x :: L => by
   have ih := len_count v L
   rw [List.length_cons, List.count_cons, List.filter_cons]
   by_cases q : x == v
   · rw [if_pos q, q]; simp; omega
   rw [if_neg q]; simp only [Bool.not_eq_true] at q; rw [q]; simp; omega
theorem sum_count : ∀ (V : List Int), V.Nodup → ∀ L : List Int, (∀ x ∈ L, x ∈ V) → (V.map fun v => L.count v).sum = L.length
 | [], _, L, h => by
   cases L with
   | nil => rfl
   | cons x L => exact absurd (h x (by simp)) (by simp)
 | v :: V, hn, L, h => by
   rw [List.nodup_cons] at hn
   have ih := sum_count V hn.2 (L.filter fun x => !(x == v)) (fun x hx => by
     obtain ⟨h1, h2⟩ := List.mem_filter.1 hx
     rcases List.mem_cons.1 (h x h1) with e | e
     · subst e; simp at h2
     exact e)
   rw [List.map_cons, List.sum_cons, len_count v L, ← ih]
   congr 2
   refine List.map_congr_left fun u hu => (List.count_filter ?_).symm
   have : u ≠ v := fun e => hn.1 (e ▸ hu)
   simpa using this
theorem sum_ge {c : Int → Nat} : ∀ V : List Int, (∀ v ∈ V, 2 ≤ c v) → 2 * V.length ≤ (V.map c).sum
 | [], _ => by simp
 | v :: V, h => by
   rw [List.map_cons, List.sum_cons, List.length_cons]
   have := h v (by simp)
   have := sum_ge V fun u hu => h u (List.mem_cons_of_mem _ hu)
   omega
theorem sum_all {c : Int → Nat} : ∀ V : List Int, (∀ v ∈ V, 2 ≤ c v) → (V.map c).sum = 2 * V.length → ∀ v ∈ V, c v = 2
 | [], _, _ => by simp
 | v :: V, h, hs => by
   rw [List.map_cons, List.sum_cons, List.length_cons] at hs
   have h1 := h v (by simp)
   have h2 := sum_ge V fun u hu => h u (List.mem_cons_of_mem _ hu)
   intro u hu
   rcases List.mem_cons.1 hu with e | e
   · subst e; omega
   exact sum_all V (fun u hu => h u (List.mem_cons_of_mem _ hu)) (by omega) u e
theorem sum_const {c : Int → Nat} : ∀ V : List Int, (∀ v ∈ V, c v = 2) → (V.map c).sum = 2 * V.length
 | [], _ => by simp
 | v :: V, h => by
   rw [List.map_cons, List.sum_cons, List.length_cons, h v (by simp), sum_const V fun u hu => h u (List.mem_cons_of_mem _ hu)]
   omega
theorem sum_verts (l : List Lk) : ((vertsL l).map fun v => (endsK l).count v).sum = 2 * l.length := by
 rw [sum_count _ (asc_nodup (verts_asc l)) _ fun x hx => mem_verts.2 hx, endsK_len]
theorem ring_eq {l : List Lk} (h : rightK l = true) : ringsB l = ringR l := by
 have hw := (rk_wh h).1
 have hpos := right_pos h
 have hs := sum_verts l
 rw [Bool.eq_iff_iff]
 unfold ringsB ringR
 rw [decide_eq_true_eq, Bool.and_eq_true, decide_eq_true_eq, decide_eq_true_eq]
 constructor
 · intro hr
   have h1 := sum_const (c := fun v => (endsK l).count v) (vertsL l) fun v hv => hr v (mem_verts.1 hv)
   have h2 : (vertsL l).length = l.length := by omega
   refine ⟨?_, by omega⟩
   refine Classical.byContradiction fun q => ?_
   -- one link: its ends are two
   have hA : lkA l 0 ∈ vertsL l := inc_verts (e := 0) (mem_upto.2 (by omega)) (.inl rfl)
   have hB : lkB l 0 ∈ vertsL l := inc_verts (e := 0) (mem_upto.2 (by omega)) (.inr rfl)
   have hne : lkA l 0 ≠ lkB l 0 := noLp hw (e := 0) (mem_upto.2 (by omega))
   have := nodup_le (l := [lkA l 0, lkB l 0]) (m := vertsL l) (by simp [hne]) (fun x hx => by
     simp only [List.mem_cons, List.not_mem_nil, or_false] at hx
     rcases hx with e | e <;> subst e <;> assumption)
   simp only [List.length_cons, List.length_nil] at this
   omega
 rintro ⟨h1, h2⟩
 have hd : ∀ v ∈ vertsL l, 2 ≤ (endsK l).count v := fun v hv => deg_two h (by omega) hv
 have := sum_all (c := fun v => (endsK l).count v) (vertsL l) hd (by omega)
 exact fun v hv => this v (mem_verts.2 hv)
end Go.Proofs.Ytahonnlgkmimlaa
namespace Go.Proofs.Ytahonnlgkmimlaa
open Go.RowKit
open Go.Proofs.Ytahonnlgkmimlaa.Deep
theorem len_filter {α : Type} (p : α → Bool) : ∀ L : List α, L.length = (L.filter p).length + (L.filter fun x => !p x).length
 | [] => rfl
 | x :: L => by
   have ih := len_filter p L
   rw [List.filter_cons, List.filter_cons, List.length_cons]
   by_cases q : p x = true
   · rw [if_pos q, if_neg (by rw [q]; decide), List.length_cons]; omega
   rw [if_neg q, if_pos (by simpa using q), List.length_cons]; omega
theorem two_of {L : List Int} (hn : L.Nodup) (h : 2 ≤ L.length) : ∃ x ∈ L, ∃ y ∈ L, x ≠ y := by
 match L, hn, h with
 | x :: y :: t, hn, _ =>
   refine ⟨x, by simp, y, by simp, fun e => ?_⟩
   subst e
   simp at hn
theorem two_len {α : Type} {L : List α} {x y : α} (hx : x ∈ L) (hy : y ∈ L) (h : x ≠ y) : 1 < L.length := by
 match L with
 | [] => cases hx
 | [a] => rw [List.mem_singleton] at hx hy; exact (h (hx.trans hy.symm)).elim
 | a :: b :: t => simp
theorem flat_two {L : List Int} {f : Int → List Int} {e g v : Int} (he : e ∈ L) (hg : g ∈ L) (hne : e ≠ g) (h1 : v ∈ f e) (h2 : v ∈ f g) : 2 ≤ (L.flatMap f).count v := by
 have p1 := List.perm_cons_erase he
 have p2 := List.perm_cons_erase ((List.mem_erase_of_ne (Ne.symm hne)).2 hg)
 have p := (p1.trans (p2.cons e)).flatMap_right f
 rw [p.count_eq, List.flatMap_cons, List.flatMap_cons, List.count_append, List.count_append]
 have := List.count_pos_iff.2 h1
 have := List.count_pos_iff.2 h2
 omega
theorem rch_hit {G : Gr} {P : Int → Prop} {w v : Int} (h : G.Rch P w v) (hne : w ≠ v) : ∃ z e, e ∈ G.L ∧ G.joins e z v ∧ G.Rch (fun x => P x ∧ x ≠ v) w z := by
 have key : ∀ y, G.Rch P w y → (∃ z e, e ∈ G.L ∧ G.joins e z v ∧ G.Rch (fun x => P x ∧ x ≠ v) w z) ∨ G.Rch (fun x => P x ∧ x ≠ v) w y := by
   intro y hy
   induction hy with
   | refl hp => exact .inr (.refl ⟨hp, hne⟩)
   | @step y z h1 ha hz ih =>
     rcases ih with ih | ih
     · exact .inl ih
     by_cases q : z = v
     · subst q; obtain ⟨e, he, hj⟩ := ha; exact .inl ⟨y, e, he, hj, ih⟩
     exact .inr (.step ih ha ⟨hz, q⟩)
 rcases key v h with h9 | h9
 · exact h9
 exact (h9.last.2 rfl).elim
theorem rch_cn {l : List Lk} {u v a b : Int} (h : (grK l).Rch (fun x => x ≠ u ∧ x ≠ v) a b) : ∀ {g g' : Int}, g ∈ upto (l.length : Int) → g' ∈ upto (l.length : Int) → (grK l).inc g a → (grK l).inc g' b → Cn l u v g g' := by
 induction h with
 | refl hp =>
   intro g g' hg hg' h1 h2
   have hg := mem_upto.1 hg; have hg' := mem_upto.1 hg'
   exact .link hg.1 hg.2 hg'.1 hg'.2 (touch_iff.2 ⟨_, hp.1, hp.2, h1, h2⟩)
 | @step y z hr ha hz ih =>
   intro g g' hg hg' h1 h2
   obtain ⟨f, hf, hj⟩ := ha
   have h9 := ih hg hf h1 hj.left
   have hg' := mem_upto.1 hg'; have hf := mem_upto.1 hf
   exact h9.trans (.link hf.1 hf.2 hg'.1 hg'.2 (touch_iff.2 ⟨z, hz.1, hz.2, hj.right, h2⟩))
section
variable {l : List Lk} {u v : Int} {c : List Int}
theorem mem_leftE {e : Int} : e ∈ leftE (eK l) u (upto (l.length : Int)) ↔ e ∈ upto (l.length : Int) ∧ ¬ (grK l).inc e u := by
 unfold leftE
 rw [List.mem_filter]
 refine and_congr_right fun _ => ?_
 have h1 : ((eK l).getD e.toNat (0, 0)).1 = lkA l e := congrFun (eA_K l) e
 have h2 : ((eK l).getD e.toNat (0, 0)).2 = lkB l e := congrFun (eB_K l) e
 rw [h1, h2, Bool.and_eq_true, Bool.not_eq_true', Bool.not_eq_true', decide_eq_false_iff_not, decide_eq_false_iff_not]
 constructor
 · rintro ⟨a, b⟩ (q | q)
   · exact a q.symm
   exact b q.symm
 intro q; exact ⟨fun e => q (.inl e.symm), fun e => q (.inr e.symm)⟩
theorem mem_butV {V : List Int} {x : Int} : x ∈ butV u V ↔ x ∈ V ∧ x ≠ u := by unfold butV; rw [List.mem_filter]; simp
theorem left_part (h : rightK l = true) : partE (nK l) (eK l) (butV u (vertsL l)) (leftE (eK l) u (upto (l.length : Int))) = 0 := by
 obtain ⟨hw, hre⟩ := rk_wh h
 obtain ⟨p1, p2, p3, p4⟩ := part_iff.1 (part_K hre)
 refine part_iff.2 ⟨p1, rises_sub ((rises_iff.1 p2).1.sublist List.filter_sublist) p2 fun x hx => (mem_butV.1 hx).1, rises_sub ((rises_iff.1 p3).1.sublist List.filter_sublist) p3 fun x hx => (mem_leftE.1 hx).1, fun e he x hx => ?_⟩
 obtain ⟨h1, h2⟩ := mem_leftE.1 he
 refine mem_butV.2 ⟨p4 e h1 x hx, fun q => h2 ?_⟩
 subst q
 rcases hx with hx | hx
 · left; exact (congrFun (eA_K l) e).symm.trans hx
 right; exact (congrFun (eB_K l) e).symm.trans hx
theorem block_of {n : Int} {E : List (Int × Int)} {V L : List Int} (hp : partE n E V L = 0) {e : Int} (he : e ∈ L) : (touchL E (classL E V L e) n, classL E V L e) ∈ blocksL n E V L := by
 have hs := class_self (E := E) (V := V) he
 have hr : (classL E V L e).getD 0 0 ∈ classL E V L e := getD_mem (List.length_pos_of_mem hs)
 have hc := (class_all hp he).1 _ hr
 refine List.mem_map.2 ⟨(classL E V L e).getD 0 0, List.mem_filter.2 ⟨(class_mem.1 hr).1, decide_eq_true (by rw [hc])⟩, by rw [hc]⟩
theorem oth_uniq (hne : u ≠ v) (h : ((othE (eK l) u (upto (l.length : Int))).count v : Int) < 2) {e g : Int} (he : e ∈ upto (l.length : Int)) (hg : g ∈ upto (l.length : Int)) (h1 : (grK l).joins e u v) (h2 : (grK l).joins g u v) : e = g := by
 refine Classical.byContradiction fun q => ?_
 have key : ∀ {e : Int}, (grK l).joins e u v → v ∈ (if u = ((eK l).getD e.toNat (0, 0)).1 then [((eK l).getD e.toNat (0, 0)).2] else if u = ((eK l).getD e.toNat (0, 0)).2 then [((eK l).getD e.toNat (0, 0)).1] else []) := by
   intro e hj
   have k1 : ((eK l).getD e.toNat (0, 0)).1 = lkA l e := congrFun (eA_K l) e
   have k2 : ((eK l).getD e.toNat (0, 0)).2 = lkB l e := congrFun (eB_K l) e
   rw [k1, k2]
   rcases hj with ⟨a, b⟩ | ⟨a, b⟩
   · have a : lkA l e = u := a
     have b : lkB l e = v := b
     rw [if_pos a.symm, b]; simp
   have a : lkA l e = v := a
   have b : lkB l e = u := b
   rw [if_neg (by rw [a]; exact hne), if_pos b.symm, a]; simp
 have := flat_two (f := fun e => if u = ((eK l).getD e.toNat (0, 0)).1 then [((eK l).getD e.toNat (0, 0)).2] else if u = ((eK l).getD e.toNat (0, 0)).2 then [((eK l).getD e.toNat (0, 0)).1] else []) he hg q (key h1) (key h2)
 unfold othE at h
 omega
theorem out_end (hw : okWh l) {g : Int} (hg : g ∈ upto (l.length : Int)) (h : ¬ (grK l).joins g u v) : ∃ w, (grK l).inc g w ∧ w ≠ u ∧ w ≠ v := by
 have hl := noLp hw hg
 by_cases a1 : lkA l g = u
 · refine ⟨lkB l g, .inr rfl, fun q => hl (a1.trans q.symm), fun q => h (.inl ⟨a1, q⟩)⟩
 by_cases a2 : lkA l g = v
 · exact ⟨lkB l g, .inr rfl, fun q => h (.inr ⟨a2, q⟩), fun q => hl (a2.trans q.symm)⟩
 exact ⟨lkA l g, .inl rfl, a1, a2⟩
theorem two_sides (h : rightK l = true) (hc : c ∈ classesL l u v) (h1 : 2 ≤ c.length) (h2 : 2 ≤ (l.length : Int) - (c.length : Int)) (hu : ∀ e ∈ upto (l.length : Int), ∀ g ∈ upto (l.length : Int), (grK l).joins e u v → (grK l).joins g u v → e = g) :
   (∃ g ∈ c, ∃ w, (grK l).inc g w ∧ w ≠ u ∧ w ≠ v) ∧ ∃ g ∈ upto (l.length : Int), g ∉ c ∧ ∃ w, (grK l).inc g w ∧ w ≠ u ∧ w ≠ v := by
 have hw := (rk_wh h).1
 have hca := (rises_iff.1 (cls_asc hc))
 have hcu : ∀ x ∈ c, x ∈ upto (l.length : Int) := fun x hx => mem_upto.2 (hca.2 x hx)
 have pick : ∀ L : List Int, (∀ x ∈ L, x ∈ upto (l.length : Int)) → L.Nodup → 2 ≤ L.length → ∃ g ∈ L, ¬ (grK l).joins g u v := by
   intro L hL hn hl
   obtain ⟨x, hx, y, hy, hxy⟩ := two_of hn hl
   by_cases q : (grK l).joins x u v
   · exact ⟨y, hy, fun q2 => hxy (hu x (hL x hx) y (hL y hy) q q2)⟩
   exact ⟨x, hx, q⟩
 constructor
 · obtain ⟨g, hg, hj⟩ := pick c hcu (asc_nodup hca.1) h1
   exact ⟨g, hg, out_end hw (hcu g hg) hj⟩
 have hlen := len_filter (fun x => decide (x ∈ c)) (upto (l.length : Int))
 have e1 : (upto (l.length : Int)).filter (fun x => decide (x ∈ c)) = c := asc_ext ((upto_asc _).sublist List.filter_sublist) hca.1 fun x => by
   rw [List.mem_filter, decide_eq_true_eq]; exact ⟨fun q => q.2, fun q => ⟨hcu x q, q⟩⟩
 rw [e1, upto_len] at hlen
 obtain ⟨g, hg, hj⟩ := pick ((upto (l.length : Int)).filter fun x => !decide (x ∈ c)) (fun x hx => (List.mem_filter.1 hx).1) ((asc_nodup (upto_asc _)).sublist List.filter_sublist) (by omega)
 obtain ⟨g1, g2⟩ := List.mem_filter.1 hg
 exact ⟨g, g1, by simpa using g2, out_end hw g1 hj⟩
theorem split_beside (h : rightK l = true) (hv : v ∈ vertsL l) (hne : u ≠ v) (hc : c ∈ classesL l u v) (h1 : 2 ≤ c.length) (h2 : 2 ≤ (l.length : Int) - (c.length : Int))
   (hcnt : ((othE (eK l) u (upto (l.length : Int))).count v : Int) < 2) : v ∈ cutsE (nK l) (eK l) (butV u (vertsL l)) (leftE (eK l) u (upto (l.length : Int))) := by
 obtain ⟨hw, hre⟩ := rk_wh h
 have hu : ∀ e ∈ upto (l.length : Int), ∀ g ∈ upto (l.length : Int), (grK l).joins e u v → (grK l).joins g u v → e = g := fun e he g hg a b => oth_uniq hne hcnt he hg a b
 obtain ⟨⟨g, hgc, w, gw, wu, wv⟩, g', hg', hgc', w', gw', wu', wv'⟩ := two_sides h hc h1 h2 hu
 have hg : g ∈ upto (l.length : Int) := mem_upto.2 ((rises_iff.1 (cls_asc hc)).2 g hgc)
 have hl2 : 2 ≤ l.length := by omega
 -- a link at v that isn't at u
 obtain ⟨f, hf, hfv, hfu⟩ : ∃ f ∈ upto (l.length : Int), (grK l).inc f v ∧ ¬ (grK l).inc f u := by
   obtain ⟨e, he, hev⟩ := verts_inc hv
   obtain ⟨e2, he2, hee, hev2⟩ := two_at h hl2 he hev
   have hj : ∀ {e : Int}, (grK l).inc e v → (grK l).inc e u → (grK l).joins e u v := by
     rintro e (a | a) (b | b)
     · exact (hne (b.symm.trans a)).elim
     · exact .inr ⟨a, b⟩
     · exact .inl ⟨b, a⟩
     exact (hne (b.symm.trans a)).elim
   by_cases q : (grK l).inc e u
   · exact ⟨e2, he2, hev2, fun q2 => hee (hu e he e2 he2 (hj hev q) (hj hev2 q2))⟩
   exact ⟨e, he, hev, q⟩
 have reach : ∀ {g w : Int}, g ∈ upto (l.length : Int) → (grK l).inc g w → w ≠ u → w ≠ v → ∃ z e, e ∈ upto (l.length : Int) ∧ (grK l).joins e z v ∧ (grK l).Rch (fun x => x ≠ u ∧ x ≠ v) w z := by
   intro g w hg gw wu wv
   obtain ⟨a, b, k1, k2, k3, k4, k5⟩ := right_tog h hg hf u
   have hr : (grK l).Rch (· ≠ u) w v := ((ends_rch hg gw k1 wu k2).trans k5).trans (ends_rch hf k3 hfv k4 (fun q => hne q.symm))
   exact rch_hit hr wv
 obtain ⟨z, e, he, hej, hr⟩ := reach hg gw wu wv
 obtain ⟨z', e', he', hej', hr'⟩ := reach hg' gw' wu' wv'
 have far : ¬ (grK l).Rch (fun x => x ≠ u ∧ x ≠ v) z z' := fun q => hgc' (cls_cl hc hgc (mem_upto.1 hg').1 (mem_upto.1 hg').2 (rch_cn ((hr.trans q).trans hr'.symm) hg hg' gw gw'))
 have hzu := hr.last
 have hzu' := hr'.last
 have hnu : ∀ {e z : Int}, (grK l).joins e z v → z ≠ u → ¬ (grK l).inc e u := fun hj hz q => by
   rcases hj.of q with q | q
   · exact hz q.symm
   exact hne q
 have heL : e ∈ leftE (eK l) u (upto (l.length : Int)) := mem_leftE.2 ⟨he, hnu hej hzu.1⟩
 have heL' : e' ∈ leftE (eK l) u (upto (l.length : Int)) := mem_leftE.2 ⟨he', hnu hej' hzu'.1⟩
 have hp := left_part (u := u) h
 have hee : e ≠ e' := fun q => by
   subst q
   have : z = z' := (hej'.of hej.left).resolve_right hzu.2
   subst this
   exact far (.refl hzu)
 have hlow : ∀ {e : Int}, e ∈ upto (l.length : Int) → ¬ (grE (eK l) (leftE (eK l) u (upto (l.length : Int)))).lp e := fun he q => noLp hw he (((congrFun (eA_K l) _).symm.trans q).trans (congrFun (eB_K l) _))
 have hinc : ∀ {e x : Int}, (grE (eK l) (leftE (eK l) u (upto (l.length : Int)))).inc e x → (grK l).inc e x := fun q => q.imp (fun q => (congrFun (eA_K l) _).symm.trans q) (fun q => (congrFun (eB_K l) _).symm.trans q)
 have lift : ∀ {a b : Int}, a ≠ u → (grE (eK l) (leftE (eK l) u (upto (l.length : Int)))).Rch (· ≠ v) a b → (grK l).Rch (fun x => x ≠ u ∧ x ≠ v) a b := by
   intro a b ha hab
   induction hab with
   | refl q => exact .refl ⟨ha, q⟩
   | @step y z _ hadj hz ih =>
     obtain ⟨k, hk, hkj⟩ := hadj
     obtain ⟨k1, k2⟩ := mem_leftE.1 hk
     refine .step ih ⟨k, k1, ?_⟩ ⟨fun q => k2 (q ▸ hinc hkj.right), hz⟩
     rcases hkj with ⟨q1, q2⟩ | ⟨q1, q2⟩
     · exact .inl ⟨(congrFun (eA_K l) _).symm.trans q1, (congrFun (eB_K l) _).symm.trans q2⟩
     exact .inr ⟨(congrFun (eA_K l) _).symm.trans q1, (congrFun (eB_K l) _).symm.trans q2⟩
 have hap : apartB (eK l) (leftE (eK l) u (upto (l.length : Int))) v e e' ≠ false := fun q => by
   obtain ⟨a, b, a1, a2, b1, b2, hab⟩ := (apart_iff heL heL' hee (hlow he) (hlow he')).1 q
   have ea : a = z := (hej.of (hinc a1)).resolve_right a2
   have eb : b = z' := (hej'.of (hinc b1)).resolve_right b2
   subst ea; subst eb
   exact far (lift hzu.1 hab)
 have hvV : v ∈ butV u (vertsL l) := mem_butV.2 ⟨hv, fun q => hne q.symm⟩
 have hcl : classL (eK l) (butV u (vertsL l)) (leftE (eK l) u (upto (l.length : Int))) e ≠ classL (eK l) (butV u (vertsL l)) (leftE (eK l) u (upto (l.length : Int))) e' := fun q => by
   have hs := class_self (E := eK l) (V := butV u (vertsL l)) heL'
   rw [← q] at hs
   exact hap (togB_iff.1 (class_mem.1 hs).2 v hvV)
 have htv : ∀ {e : Int}, e ∈ leftE (eK l) u (upto (l.length : Int)) → (grK l).inc e v → v ∈ touchL (eK l) (classL (eK l) (butV u (vertsL l)) (leftE (eK l) u (upto (l.length : Int))) e) (nK l) := fun he hi => by
   obtain ⟨_, p2, _, _⟩ := part_iff.1 hp
   refine mem_touchL.2 ⟨(rises_iff.1 p2).2 v hvV, _, class_self he, ?_⟩
   rcases hi with hi | hi
   · left; exact (congrFun (eA_K l) _).trans hi
   right; exact (congrFun (eB_K l) _).trans hi
 unfold cutsE
 rw [if_neg (by omega)]
 refine List.mem_filter.2 ⟨hvV, decide_eq_true ?_⟩
 unfold hasIn
 exact two_len (List.mem_filter.2 ⟨block_of hp heL, decide_eq_true (htv heL hej.right)⟩) (List.mem_filter.2 ⟨block_of hp heL', decide_eq_true (htv heL' hej'.right)⟩) (fun q => hcl (congrArg Prod.snd q))
end
end Go.Proofs.Ytahonnlgkmimlaa
namespace Go.Proofs.Ytahonnlgkmimlaa
open Go.RowKit
open Go.Proofs.Ytahonnlgkmimlaa.Deep
theorem whole_right {l : List Lk} (h : rightK l = true) : wholeR l = (((nK l, eK l), (vertsL l, upto (l.length : Int))), true) := wholeR_K (rk_wh h).1 (rk_wh h).2
theorem besK_right {l : List Lk} (h : rightK l = true) (u : Int) : besK l u = besideE (nK l) (eK l) (vertsL l) (upto (l.length : Int)) u := by unfold besK; rw [whole_right h]
theorem cuts_rises {l : List Lk} (h : rightK l = true) (u : Int) : risesP (cutsE (nK l) (eK l) (butV u (vertsL l)) (leftE (eK l) u (upto (l.length : Int)))) (nK l) := by
 have hp := left_part (u := u) h
 obtain ⟨_, p2, _, _⟩ := part_iff.1 hp
 unfold cutsE
 rw [if_neg (by omega)]
 exact rises_sub ((rises_iff.1 p2).1.sublist List.filter_sublist) p2 fun x hx => (List.mem_filter.1 hx).1
theorem cand_none {l : List Lk} (h : rightK l = true) {u v : Int} (hv : v ∈ vertsL l) (hne : u ≠ v) (hb : besideB (nK l) (eK l) (vertsL l) (upto (l.length : Int)) u v = true) (hlt : ¬ v < u) : candC l u v (classesL l u v) = [] := by
 unfold besideB at hb
 rw [decide_eq_false hlt, Bool.false_or, Bool.and_eq_true, decide_eq_true_eq, Bool.not_eq_true'] at hb
 unfold candC
 rw [List.map_eq_nil_iff, List.filter_eq_nil_iff]
 intro c hc hw
 unfold willB at hw
 rw [Bool.and_eq_true, decide_eq_true_eq, decide_eq_true_eq] at hw
 have := split_beside h hv hne hc (by omega) hw.2 hb.1
 rw [hasB_mem (cuts_rises h u), decide_eq_false_iff_not] at hb
 exact hb.2 this
theorem candV_bes {l : List Lk} (h : rightK l = true) {pre us : List Int} {u : Int} (hV : vertsL l = pre ++ u :: us) : candV l u (besK l u) = candV l u us := by
 have ha := verts_asc l
 rw [hV] at ha
 have ha2 : (∀ x ∈ pre, x < u) ∧ ∀ x ∈ us, u < x := by
   obtain ⟨_, h2, h3⟩ := List.pairwise_append.1 ha
   exact ⟨fun x hx => h3 x hx u (by simp), fun x hx => (List.pairwise_cons.1 h2).1 x hx⟩
 rw [besK_right h]
 unfold besideE butV
 rw [List.filter_filter]
 rw [show (List.filter (fun a => !besideB (nK l) (eK l) (vertsL l) (upto (l.length : Int)) u a && !decide (a = u)) (vertsL l)) = us.filter (fun a => !besideB (nK l) (eK l) (vertsL l) (upto (l.length : Int)) u a && !decide (a = u)) by
   conv => lhs; rw [hV]
   rw [List.filter_append, List.filter_eq_nil_iff.2 (fun x hx => ?_), List.nil_append, List.filter_cons, if_neg (by simp)]
   · rw [hV]
   have := ha2.1 x hx
   unfold besideB
   rw [decide_eq_true this]; simp]
 have key : ∀ vs : List Int, (∀ v ∈ vs, v ∈ us) → candV l u (vs.filter fun a => !besideB (nK l) (eK l) (vertsL l) (upto (l.length : Int)) u a && !decide (a = u)) = candV l u vs := by
   intro vs
   induction vs with
   | nil => intro _; rfl
   | cons v vs ih =>
     intro hs
     have ih := ih fun x hx => hs x (List.mem_cons_of_mem _ hx)
     have hvu := ha2.2 v (hs v (by simp))
     rw [List.filter_cons, candV_cons]
     by_cases q : besideB (nK l) (eK l) (vertsL l) (upto (l.length : Int)) u v = true
     · rw [if_neg (by rw [q]; simp), ih, cand_none h (by rw [hV]; exact List.mem_append_right _ (List.mem_cons_of_mem _ (hs v (by simp)))) (by omega) q (by omega)]; rfl
     rw [if_pos (by simp only [Bool.not_eq_true] at q; rw [q]; simp; omega), candV_cons, ih]
 exact key us fun _ h => h
theorem candU_sp {l : List Lk} (h : rightK l = true) : ∀ (us pre : List Int), vertsL l = pre ++ us → candU l us = spU l us
 | [], _, _ => rfl
 | u :: us, pre, hV => by
   rw [candU_cons, spU, candV_bes h hV, candU_sp h us (pre ++ [u]) (by rw [hV]; simp)]
theorem first_eq {l : List Lk} (h : rightK l = true) : firstK l = (splitsR l).head? := by
 unfold firstK splitsR
 rw [← ring_eq h, whole_right h]
 by_cases q : ringsB l = true
 · rw [if_neg (by rw [q]; simp), if_pos q]; rfl
 rw [if_pos ⟨h, by simpa using q⟩, if_neg q]
 exact congrArg _ (candU_sp h (vertsL l) [] rfl)
end Go.Proofs.Ytahonnlgkmimlaa
namespace Go.Proofs.Ytahonnlgkmimlaa
open Go.RowKit
end Go.Proofs.Ytahonnlgkmimlaa
