/-
 Texts joined by program: WalkP6, WalkP7, WalkB8, WalkP8, PairD, WalkP9, WalkP10, PairE, WalkP11, WalkP12, PairF, PairG, TabC, WalkQ1, PairH, WalkQ2, WalkQ3, PairI, WalkB10, WalkB11, WalkB12, WalkQ4, WalkQ5, WalkQ6, WalkQ7, WalkQ8, PairJ.
-/
import Derived.Test.YtahonnlgkmimlaaProg
import Derived.Laws.StructEq
import Derived.Tactics
import Derived.Test.YtahonnlgkmimlaaJPairCuts5
set_option linter.unusedSimpArgs false
set_option linter.unusedVariables false
set_option maxRecDepth 100000
set_option maxHeartbeats 8000000
namespace Go.Proofs.Ytahonnlgkmimlaa
open Go.RowKit
theorem idxrow_any (f : Nat) (cs : List Value) (p : Int → Bool) (v : Value) (l : List Int) (o : Orig) (S : Stab) (tl : List Res) (w : World) (hH : Fr o w S (.row 3 v l :: tl)) (hl : l.length ≤ 1000000) (hwf : ∀ x ∈ l, wfI x) (hf : Callable Try.prog f) (hp : ∀ (x : Int) (w' : World) (S' : Stab) (l' : List Int), wfI x → Fr o w' S' (.row 3 v l' :: tl) → Calls Try.prog f ([Value.int .i64 x] ++ cs).toArray w' (fun e w2 => ∃ q, e = .returned q ∧ (q = .bool (p x) ∧ ∃ S2, Fr o w2 S2 (.row 3 v l' :: tl)))) :
 Calls Try.prog 137 [v, (.func (.func f) #[] cs.toArray)].toArray w (fun e w' => ∃ q, e = .returned q ∧ (q = .int .i64 (idxP p l) ∧ ∃ S', Fr o w' S' (.row 3 v l :: tl))) := by
 refine enter Try.f137 19 Try.func137 fun a hA => ?_
 replace hA := env_sub [(0, v), (1, (.func (.func f) #[] cs.toArray))] hA
 have H := hH
 refine go_seq fun K1 hK1 => ?_
 refine q_reg [] [(0, v), (1, (.func (.func f) #[] cs.toArray))] (TT ∧ True) hA H ⟨tv, tv⟩ fun a w2 hA H hG => ?_
 refine hK1 _ _ ?_
 refine go_seq fun K3 hK3 => ?_
 refine go_seq fun K4 hK4 => ?_
 refine q_reg [(7, iv (l.length : Int))] [(0, v), (1, (.func (.func f) #[] cs.toArray)), (7, iv (l.length : Int)), (8, iv 0)] (TT ∧ (LenOk v (l.length : Int)) ∧ TT ∧ True) hA H ⟨tv, by exact len_ok (H.out 0 rfl), tv, tv⟩ fun a w5 hA H hG => ?_
 refine hK4 _ _ ?_
 refine go_block 0 ?_
 refine go_loop_ (Int) (fun x_ a W => (fun (i : Int) => EnvOk 19 a (keepEnv [(0, v), (1, (.func (.func f) #[] cs.toArray)), (7, iv (l.length : Int)), (8, iv i)]) ∧ (∃ S, Fr o W S (.row 3 v l :: tl)) ∧ 0 ≤ i ∧ i ≤ (l.length : Int) ∧ ∀ j : Nat, (j : Int) < i → p (l.getD j 0) = false) x_) (fun x_ => (fun (i : Int) => ((l.length : Int) - i).toNat) x_) (0) ?_ (fun i a w7 hI => ?_)
 · (try dsimp only); exact ⟨env_sub _ hA, ⟨_, H⟩, by omega, by omega, fun j hj => by omega⟩
 obtain ⟨hA, ⟨S, H⟩, h0, h0b, hi⟩ := hI
 try dsimp only at h0 h0b hi
 refine go_seq fun K8 hK8 => ?_
 refine q_reg [] [(0, v), (1, (.func (.func f) #[] cs.toArray)), (7, iv (l.length : Int)), (8, iv i), (9, .bool (decide (i < (l.length : Int))))] (TT ∧ True) hA H ⟨tv, tv⟩ fun a w9 hA H hG => ?_
 refine hK8 _ _ ?_
 refine go_seq fun K10 hK10 => ?_
 refine go_cond hA (.tmp 9) (decide (i < (l.length : Int))) (fun hb11 => ?_) (fun hb11 => ?_)
 · have hhb11 := of_decide_eq_true hb11
   refine go_skip ?_
   refine hK10 _ _ ?_
   refine go_seq fun K12 hK12 => ?_
   refine go_block 1 ?_
   refine go_seq fun K13 hK13 => ?_
   refine q_reg [] [(0, v), (1, (.func (.func f) #[] cs.toArray)), (5, iv i), (7, iv (l.length : Int)), (8, iv i)] (TT ∧ TT ∧ True) hA H ⟨tv, tv, tv⟩ fun a w14 hA H hG => ?_
   refine hK13 _ _ ?_
   refine go_seq fun K15 hK15 => ?_
   refine region_list ?_
   refine q_list 0 5 [(15, iv (l.getD i.toNat 0))] [(0, v), (1, (.func (.func f) #[] cs.toArray)), (5, iv i), (7, iv (l.length : Int)), (8, iv i), (11, (.func (.func f) #[] cs.toArray)), (15, iv (l.getD i.toNat 0))] (TT ∧ TT ∧ TT ∧ ((Try.prog.info? 3).isSome = true ∧ IdxOk v i) ∧ (CellOk (On w14) (hdB v) (hdO v + i.toNat * 1) (.int .i64 (l.getD i.toNat 0))) ∧ True) hA H ⟨tv, tv, tv, ⟨by kernel_rfl, by exact idx_ok (H.out 0 rfl) (by omega) (by omega)⟩, by exact cell_flat (i := i) (H.out 0 rfl) (by omega) (by omega) 0 0, tv⟩ fun a w16 hA H hG => ?_
   refine list_at 5 ?_; refine q_anyC 5 16 (.tmp 11) f #[.tmp 15] #[3] [.int .i64 (l.getD i.toNat 0)] [] cs (fun u_ w_ => u_ = .bool (p (l.getD i.toNat 0)) ∧ ∃ S_, Fr o w_ S_ (.row 3 v l :: tl)) [(0, v), (1, (.func (.func f) #[] cs.toArray)), (5, iv i), (7, iv (l.length : Int)), (8, iv i)] hA hf (by exact hp (l.getD i.toNat 0) _ _ _ (getD_wf hwf (by omega)) H) fun v17 a w18 hR19 hA => ?_
   obtain ⟨rfl, S, H⟩ := hR19
   refine list_end ?_
   refine hK15 _ _ ?_
   refine go_cond hA (.tmp 16) (p (l.getD i.toNat 0)) (fun hb20 => ?_) (fun hb20 => ?_)
   · have hhb20 := hb20
     refine go_seq fun K21 hK21 => ?_
     refine q_reg [] [(4, iv i)] (TT ∧ TT ∧ True) hA H ⟨tv, tv, tv⟩ fun a w22 hA H hG => ?_
     refine hK21 _ _ ?_
     refine go_ret_ ?_
     refine ret_one (P := Try.prog) (fn := Try.f137) (R := (fun e w' => ∃ q, e = .returned q ∧ (q = .int .i64 (idxP p l) ∧ ∃ S', Fr o w' S' (.row 3 v l :: tl)))) 4 (.int .i64 i) hA ?_
     exact ⟨_, rfl, by rw [idxP_some 0 (i := i.toNat) (by omega) hhb20 (fun j hj => hi j (by omega)), Int.toNat_of_nonneg h0], _, H⟩
   have hhb20 := hb20
   refine go_skip ?_
   refine hK12 _ _ ?_
   refine q_reg [] [(0, v), (1, (.func (.func f) #[] cs.toArray)), (7, iv (l.length : Int)), (8, iv (i + 1))] ((InR .i64 (i + 1)) ∧ TT ∧ True) hA H ⟨⟨by omega, by omega⟩, tv, tv⟩ fun a w23 hA H hG => ?_
   refine ⟨(i + 1), ⟨env_sub _ hA, ⟨_, H⟩, ?_⟩, ?_⟩
   · (try dsimp only); exact ⟨by omega, by omega, fun j hj => if q : (j : Int) = i then (by rw [show j = i.toNat by omega]; exact hhb20) else hi j (by omega)⟩
   (try dsimp only); omega
 have hhb11 := of_decide_eq_false hb11
 refine go_exit 0 ?_
 refine hK3 _ _ ?_
 refine go_seq fun K24 hK24 => ?_
 refine q_reg [] [(4, iv (-1))] (TT ∧ True) hA H ⟨tv, tv⟩ fun a w25 hA H hG => ?_
 refine hK24 _ _ ?_
 refine go_ret_ ?_
 refine ret_one (P := Try.prog) (fn := Try.f137) (R := (fun e w' => ∃ q, e = .returned q ∧ (q = .int .i64 (idxP p l) ∧ ∃ S', Fr o w' S' (.row 3 v l :: tl)))) 4 (.int .i64 (-1)) hA ?_
 exact ⟨_, rfl, by rw [idxP_none 0 (fun j hj => hi j (by omega))], _, H⟩
theorem bclos_any (b5 b8 pb b13 : Nat) (u : Int) (m : List (Int × Int)) (vc : Value) (cl : List Int) (x : Int) (o : Orig) (S : Stab) (tl : List Res) (w : World) (hH : Fr o w S (.box b5 3 [.int .i64 u] :: .box b8 130 [.map (some pb)] :: mapN Try.prog 3 pb m :: .box b13 27 [vc] :: .ro vc cl :: tl)) (hx : wfI x) (hc : cl.length ≤ 1000000) :
 Calls Try.prog 114 [.int .i64 x, .pointer (some ⟨b5, 0, none⟩), .pointer (some ⟨b8, 0, none⟩), .pointer (some ⟨b13, 0, none⟩)].toArray w (fun e w' => ∃ q, e = .returned q ∧ (q = .bool (decide (x < u) || (decide ((lastAt m x).getD 0 < 2) && !hasB cl x)) ∧ ∃ S', Fr o w' S' (.box b5 3 [.int .i64 u] :: .box b8 130 [.map (some pb)] :: mapN Try.prog 3 pb m :: .box b13 27 [vc] :: .ro vc cl :: tl))) := by
 unfold wfI at hx
 refine enter Try.f114 21 Try.func114 fun a hA => ?_
 replace hA := env_sub [(0, iv x), (1, pv b5), (2, pv b8), (3, pv b13)] hA
 have H := hH
 refine go_seq fun K1 hK1 => ?_
 refine q_reg [] [(0, iv x), (1, pv b5), (2, pv b8), (3, pv b13)] (TT ∧ True) hA H ⟨tv, tv⟩ fun a w2 hA H hG => ?_
 refine hK1 _ _ ?_
 refine go_seq fun K3 hK3 => ?_
 refine q_reg [(7, iv u), (10, (.map (some pb))), (12, iv ((lastAt m x).getD 0)), (15, vc), (17, .bool (hasB cl x))] [(5, .bool ((decide (x < u)) || ((decide ((lastAt m x).getD 0 < 2)) && (!(hasB cl x)))))] (TT ∧ (CellOk (On w2) b5 (0) (.int .i64 u)) ∧ TT ∧ TT ∧ ((decide (x < u)) = false → CellOk (On w2) b8 (0) ((.map (some pb)))) ∧ ((decide (x < u)) = false → True) ∧ ((decide (x < u)) = false → ∀ w', On w2 w' → (Instr.lookup 130 (.map (some pb)) (.int .i64 x) false).run Try.prog w' = .ok (.int .i64 ((lastAt m x).getD 0)) w') ∧ ((decide (x < u)) = false → True) ∧ ((decide (x < u)) = false → True) ∧ ((decide (x < u)) = false → (decide ((lastAt m x).getD 0 < 2)) = true → CellOk (On w2) b13 (0) (vc)) ∧ ((decide (x < u)) = false → (decide ((lastAt m x).getD 0 < 2)) = true → True) ∧ ((decide (x < u)) = false → (decide ((lastAt m x).getD 0 < 2)) = true → Callable Try.prog 39 ∧ CallOk Try.prog (On w2) 39 [vc, .int .i64 x].toArray (.bool (hasB cl x))) ∧ ((decide (x < u)) = false → (decide ((lastAt m x).getD 0 < 2)) = true → True) ∧ ((decide (x < u)) = false → True) ∧ TT ∧ TT ∧ True) hA H ⟨tv, by exact box_cell H 0 rfl 0, tv, tv, fun _ => by exact box_cell H 1 rfl 0, fun _ => tv, fun hg0 => by replace hg0 := of_decide_eq_false hg0; exact by exact mapN_look H 2 rfl (obj_on H 2 rfl) ⟨by omega, by omega⟩ Try.underlying130 Try.underlying3 (fun w => by kernel_rfl), fun _ => tv, fun _ => tv, fun _ _ => by exact box_cell H 3 rfl 0, fun _ _ => tv, fun hg0 hg1 => by replace hg0 := of_decide_eq_false hg0; replace hg1 := of_decide_eq_true hg1; exact ⟨callable_of, callOk_of fun w hw => by exact has_any vc cl x w (((H.on hw).get 4 rfl)) (by omega)⟩, fun _ _ => tv, fun _ => tv, tv, tv, tv⟩ fun a w4 hA H hG => ?_
 refine hK3 _ _ ?_
 refine go_ret_ ?_
 refine ret_one (P := Try.prog) (fn := Try.f114) (R := (fun e w' => ∃ q, e = .returned q ∧ (q = .bool (decide (x < u) || (decide ((lastAt m x).getD 0 < 2) && !hasB cl x)) ∧ ∃ S', Fr o w' S' (.box b5 3 [.int .i64 u] :: .box b8 130 [.map (some pb)] :: mapN Try.prog 3 pb m :: .box b13 27 [vc] :: .ro vc cl :: tl)))) 5 (.bool ((decide (x < u)) || ((decide ((lastAt m x).getD 0 < 2)) && (!(hasB cl x))))) hA ?_
 exact ⟨_, rfl, rfl, _, H⟩
theorem delrow_any (f : Nat) (cs : List Value) (p : Int → Bool) (v : Value) (l : List Int) (o : Orig) (S : Stab) (tl : List Res) (w : World) (hH : Fr o w S (.row 3 v l :: tl)) (hl : l.length ≤ 1000000) (hwf : ∀ x ∈ l, wfI x) (hf : Callable Try.prog f) (hp : ∀ (x : Int) (w' : World) (S' : Stab) (l' : List Int), wfI x → Fr o w' S' (.row 3 v l' :: tl) → Calls Try.prog f ([Value.int .i64 x] ++ cs).toArray w' (fun e w2 => ∃ q, e = .returned q ∧ (q = .bool (p x) ∧ ∃ S2, Fr o w2 S2 (.row 3 v l' :: tl)))) :
 Calls Try.prog 113 [v, (.func (.func f) #[] cs.toArray)].toArray w (fun e w' => ∃ q, e = .returned q ∧ ∃ S', Fr o w' S' (.row 3 q (l.filter (fun x => !p x)) :: tl)) := by
 have hib := idxP_bd p l
 refine enter Try.f113 42 Try.func113 fun a hA => ?_
 replace hA := env_sub [(0, v), (1, (.func (.func f) #[] cs.toArray))] hA
 have H := hH
 refine go_seq fun K1 hK1 => ?_
 refine q_reg [] [(0, v), (1, (.func (.func f) #[] cs.toArray))] (TT ∧ True) hA H ⟨tv, tv⟩ fun a w2 hA H hG => ?_
 refine hK1 _ _ ?_
 refine go_seq fun K3 hK3 => ?_
 refine region_list ?_
 refine q_list 0 2 [] [(0, v), (1, (.func (.func f) #[] cs.toArray)), (8, v), (9, (.func (.func f) #[] cs.toArray))] (TT ∧ TT ∧ True) hA H ⟨tv, tv, tv⟩ fun a w4 hA H hG => ?_
 refine list_at 2 ?_; refine q_any 2 10 137 #[.tmp 8, .tmp 9] #[27, 126] [v, (.func (.func f) #[] cs.toArray)] _ [(0, v), (1, (.func (.func f) #[] cs.toArray))] hA (idxrow_any f cs p v l o _ tl _ H (by omega) hwf hf hp) fun v5 a w6 hR7 hA => ?_
 obtain ⟨rfl, S, H⟩ := hR7
 refine q_list 3 1 [] [(0, v), (1, (.func (.func f) #[] cs.toArray)), (5, iv (idxP p l))] (TT ∧ True) hA H ⟨tv, tv⟩ fun a w8 hA H hG => ?_
 refine list_end ?_
 refine hK3 _ _ ?_
 refine go_seq fun K9 hK9 => ?_
 refine go_seq fun K10 hK10 => ?_
 refine q_reg [] [(0, v), (1, (.func (.func f) #[] cs.toArray)), (5, iv (idxP p l)), (12, .bool (decide (idxP p l = -1)))] (TT ∧ TT ∧ True) hA H ⟨tv, tv, tv⟩ fun a w11 hA H hG => ?_
 refine hK10 _ _ ?_
 refine go_cond hA (.tmp 12) (decide (idxP p l = -1)) (fun hb12 => ?_) (fun hb12 => ?_)
 · have hhb12 := of_decide_eq_true hb12
   refine go_seq fun K13 hK13 => ?_
   refine q_reg [] [(4, v)] (TT ∧ TT ∧ True) hA H ⟨tv, tv, tv⟩ fun a w14 hA H hG => ?_
   refine hK13 _ _ ?_
   refine go_ret_ ?_
   refine ret_one (P := Try.prog) (fn := Try.f113) (R := (fun e w' => ∃ q, e = .returned q ∧ ∃ S', Fr o w' S' (.row 3 q (l.filter (fun x => !p x)) :: tl))) 4 v hA ?_
   exact ⟨_, rfl, _, by rw [← del_none hhb12]; exact H⟩
 have hhb12 := of_decide_eq_false hb12
 refine go_skip ?_
 refine hK9 _ _ ?_
 refine go_seq fun K15 hK15 => ?_
 refine go_seq fun K16 hK16 => ?_
 refine q_reg [] [(0, v), (1, (.func (.func f) #[] cs.toArray)), (5, iv (idxP p l)), (6, iv ((idxP p l) + 1))] (TT ∧ (InR .i64 ((idxP p l) + 1)) ∧ TT ∧ True) hA H ⟨tv, ⟨by omega, by omega⟩, tv, tv⟩ fun a w17 hA H hG => ?_
 refine hK16 _ _ ?_
 refine go_block 0 ?_
 refine go_loop_ (Int × Int × List Int) (fun x_ a W => (fun (j : Int) (i : Int) (c : List Int) => EnvOk 42 a (keepEnv [(0, v), (1, (.func (.func f) #[] cs.toArray)), (5, iv i), (6, iv j)]) ∧ (∃ S, Fr o W S (.row 3 v c :: tl)) ∧ DelI p l j i c) x_.1 x_.2.1 x_.2.2) (fun x_ => (fun (j : Int) (i : Int) (c : List Int) => ((l.length : Int) - j).toNat) x_.1 x_.2.1 x_.2.2) (idxP p l + 1, idxP p l, l) ?_ (fun x_ a w19 hI => ?_)
 · (try dsimp only); exact ⟨env_sub _ hA, ⟨_, H⟩, del_start (by have := hhb12; omega)⟩
 obtain ⟨j, i, c⟩ := x_
 obtain ⟨hA, ⟨S, H⟩, hd⟩ := hI
 try dsimp only at hd
 replace H : Fr _ _ _ (.row 3 v c :: tl) := H
 have hd0 := hd.i0; have hd1 := hd.ij; have hd2 := hd.jn; have hd3 := hd.len
 refine go_seq fun K20 hK20 => ?_
 refine go_seq fun K21 hK21 => ?_
 refine q_reg [(18, iv (c.length : Int))] [(0, v), (1, (.func (.func f) #[] cs.toArray)), (5, iv i), (6, iv j), (19, .bool (decide (j < (c.length : Int))))] (TT ∧ TT ∧ (LenOk v (c.length : Int)) ∧ TT ∧ True) hA H ⟨tv, tv, by exact len_ok (H.out 0 rfl), tv, tv⟩ fun a w22 hA H hG => ?_
 refine hK21 _ _ ?_
 refine go_cond hA (.tmp 19) (decide (j < (c.length : Int))) (fun hb23 => ?_) (fun hb23 => ?_)
 · have hhb23 := of_decide_eq_true hb23
   refine go_skip ?_
   refine hK20 _ _ ?_
   refine go_seq fun K24 hK24 => ?_
   refine go_block 1 ?_
   refine go_seq fun K25 hK25 => ?_
   refine q_reg [(25, iv (c.getD j.toNat 0))] [(0, v), (1, (.func (.func f) #[] cs.toArray)), (5, iv i), (6, iv j), (7, iv (c.getD j.toNat 0))] (TT ∧ TT ∧ ((Try.prog.info? 3).isSome = true ∧ IdxOk v j) ∧ (CellOk (On w22) (hdB v) (hdO v + j.toNat * 1) (.int .i64 (c.getD j.toNat 0))) ∧ TT ∧ True) hA H ⟨tv, tv, ⟨by kernel_rfl, by exact idx_ok (H.out 0 rfl) (by omega) (by omega)⟩, by exact cell_flat (i := j) (H.out 0 rfl) (by omega) (by omega) 0 0, tv, tv⟩ fun a w26 hA H hG => ?_
   refine hK25 _ _ ?_
   refine go_seq fun K27 hK27 => ?_
   refine region_list ?_
   refine q_list 0 2 [] [(0, v), (1, (.func (.func f) #[] cs.toArray)), (5, iv i), (6, iv j), (7, iv (c.getD j.toNat 0)), (26, (.func (.func f) #[] cs.toArray)), (27, iv (c.getD j.toNat 0))] (TT ∧ TT ∧ True) hA H ⟨tv, tv, tv⟩ fun a w28 hA H hG => ?_
   refine list_at 2 ?_; refine q_anyC 2 28 (.tmp 26) f #[.tmp 27] #[3] [.int .i64 (c.getD j.toNat 0)] [] cs (fun u_ w_ => u_ = .bool (p (c.getD j.toNat 0)) ∧ ∃ S_, Fr o w_ S_ (.row 3 v c :: tl)) [(0, v), (1, (.func (.func f) #[] cs.toArray)), (5, iv i), (6, iv j), (7, iv (c.getD j.toNat 0))] hA hf (by exact hp (c.getD j.toNat 0) _ _ _ (by rw [hd.back j.toNat (by omega)]; exact getD_wf hwf (by omega)) H) fun v29 a w30 hR31 hA => ?_
   obtain ⟨rfl, S, H⟩ := hR31
   refine q_list 3 1 [] [(0, v), (1, (.func (.func f) #[] cs.toArray)), (5, iv i), (6, iv j), (7, iv (c.getD j.toNat 0)), (29, .bool (!(p (c.getD j.toNat 0))))] (TT ∧ True) hA H ⟨tv, tv⟩ fun a w32 hA H hG => ?_
   refine list_end ?_
   refine hK27 _ _ ?_
   refine go_cond hA (.tmp 29) (!(p (c.getD j.toNat 0))) (fun hb33 => ?_) (fun hb33 => ?_)
   · have hhb33 := (nT hb33)
     refine go_seq fun K34 hK34 => ?_
     refine region_list ?_
     refine q_list 0 4 [] [(0, v), (1, (.func (.func f) #[] cs.toArray)), (5, iv i), (6, iv j), (32, iv (c.getD j.toNat 0)), (33, .pointer (some ⟨hdB v, hdO v + i.toNat * 1, none⟩))] (TT ∧ TT ∧ TT ∧ ((Try.prog.info? 3).isSome = true ∧ IdxOk v i) ∧ True) hA H ⟨tv, tv, tv, ⟨by kernel_rfl, by exact idx_ok (H.out 0 rfl) (by omega) (by omega)⟩, tv⟩ fun a w35 hA H hG => ?_
     refine list_at 4 ?_; refine q_storeRow 4 3 (.tmp 33) (.tmp 32) 0 (i.toNat * 1) 3 v c (c.set i.toNat (c.getD j.toNat 0)) [.int .i64 (c.getD j.toNat 0)] (.int .i64 (c.getD j.toNat 0)) [(0, v), (1, (.func (.func f) #[] cs.toArray)), (5, iv i), (6, iv j)] hA H rfl rfl (Nat.zero_lt_succ _) (row_room (by omega) (by omega)) (List.length_set ..) (fun xs hxs => rd_setI (by omega) hxs) (fun v hv => by simp only [List.mem_cons, List.not_mem_nil, or_false] at hv; rcases hv with rfl; exact rfl) fun a w36 H hA hG => ?_
     replace H : Fr _ _ _ (.row 3 v (c.set i.toNat (c.getD j.toNat 0)) :: tl) := H
     refine list_end ?_
     refine hK34 _ _ ?_
     refine q_reg [] [(0, v), (1, (.func (.func f) #[] cs.toArray)), (5, iv (i + 1)), (6, iv j)] (TT ∧ (InR .i64 (i + 1)) ∧ TT ∧ True) hA H ⟨tv, ⟨by omega, by omega⟩, tv, tv⟩ fun a w37 hA H hG => ?_
     refine hK24 _ _ ?_
     refine q_reg [] [(0, v), (1, (.func (.func f) #[] cs.toArray)), (5, iv (i + 1)), (6, iv (j + 1))] (TT ∧ (InR .i64 (j + 1)) ∧ TT ∧ True) hA H ⟨tv, ⟨by omega, by omega⟩, tv, tv⟩ fun a w38 hA H hG => ?_
     refine ⟨(j + 1, i + 1, c.set i.toNat (c.getD j.toNat 0)), ⟨env_sub _ hA, ⟨_, H⟩, ?_⟩, ?_⟩
     · (try dsimp only); exact del_keep hd (by omega) hhb33
     (try dsimp only); omega
   have hhb33 := (nF hb33)
   refine go_skip ?_
   refine hK24 _ _ ?_
   refine q_reg [] [(0, v), (1, (.func (.func f) #[] cs.toArray)), (5, iv i), (6, iv (j + 1))] (TT ∧ (InR .i64 (j + 1)) ∧ TT ∧ True) hA H ⟨tv, ⟨by omega, by omega⟩, tv, tv⟩ fun a w39 hA H hG => ?_
   refine ⟨(j + 1, i, c), ⟨env_sub _ hA, ⟨_, H⟩, ?_⟩, ?_⟩
   · (try dsimp only); exact del_skip hd (by omega) hhb33
   (try dsimp only); omega
 have hhb23 := of_decide_eq_false hb23
 refine go_exit 0 ?_
 refine hK15 _ _ ?_
 refine go_seq fun K40 hK40 => ?_
 refine region_list ?_
 obtain ⟨ut, hut1, hut2⟩ := H.tailOf (P := Try.prog) 0 rfl i (by omega) (by omega) (t := 27) Try.underlying27 (by kernel_rfl)
 refine q_list 0 3 [(38, ut)] [(0, v), (5, iv i), (38, ut)] (TT ∧ TT ∧ (∀ w, (Instr.sliceAt 27 v (some (.int .i64 i)) none none).run Try.prog w = .ok ut w) ∧ True) hA H ⟨tv, tv, fun w => by exact hut1 .i64 w, tv⟩ fun a w41 hA H hG => ?_
 refine list_at 3 ?_; refine q_clearRow 3 27 (.tmp 38) 0 3 3 v ut c i.toNat [(0, v), (5, iv i)] hA H rfl hut2 (by omega) Try.underlying27 (fun w => by kernel_rfl) fun a w42 H hA hG => ?_
 replace H : Fr _ _ _ (.row 3 v (c.take i.toNat ++ List.replicate (c.length - i.toNat) (0 : Int)) :: tl) := H
 refine list_end ?_
 refine hK40 _ _ ?_
 refine go_seq fun K43 hK43 => ?_
 have hlc : (c.take i.toNat ++ List.replicate (c.length - i.toNat) (0 : Int)).length = c.length := by rw [List.length_append, List.length_take, List.length_replicate]; omega
 obtain ⟨u2, hq1, hq2, hq3⟩ := H.cut (P := Try.prog) 0 rfl i.toNat (by omega) (by omega) (t := 27) Try.underlying27 (by kernel_rfl)
 rw [del_end hd (by omega) rfl] at hq3; replace H := hq3
 rw [Int.toNat_of_nonneg hd0] at hq1
 replace H : Fr _ _ _ (.row 3 u2 (l.filter (fun x => !p x)) :: tl) := H
 refine q_reg [(41, u2)] [(4, u2)] (TT ∧ TT ∧ (∀ w, (Instr.sliceAt 27 v none (some (.int .i64 i)) none).run Try.prog w = .ok u2 w) ∧ TT ∧ True) hA H ⟨tv, tv, fun w => by exact hq1 .i64 w, tv, tv⟩ fun a w44 hA H hG => ?_
 refine hK43 _ _ ?_
 refine go_ret_ ?_
 refine ret_one (P := Try.prog) (fn := Try.f113) (R := (fun e w' => ∃ q, e = .returned q ∧ ∃ S', Fr o w' S' (.row 3 q (l.filter (fun x => !p x)) :: tl))) 4 u2 hA ?_
 exact ⟨_, rfl, _, H⟩
theorem cuts_any (n : Int) (ve : Value) (E : List (Int × Int)) (vv vl : Value) (V L : List Int) (o : Orig) (hn : -9223372036854775808 ≤ n ∧ n ≤ 9223372036854775807) (hE : Rd (· < o.w.heap.size) o.w ve E) (hV : Rd (· < o.w.heap.size) o.w vv V) (hL : Rd (· < o.w.heap.size) o.w vl L) :
 Calls Try.prog 48 [.agg #[.int .i64 n, ve], .agg #[vv, vl]].toArray o.w (Giv o (fun S v w' => ∃ p, v = .tuple #[p, .int .i64 (partE n E V L)] ∧ Rd S w' p (cutsE n E V L))) := by
 refine enter Try.f48 64 Try.func48 fun a hA => ?_
 replace hA := env_sub [(0, .agg #[.int .i64 n, ve]), (1, .agg #[vv, vl])] hA
 have H := Fr.start o
 refine go_seq fun K1 hK1 => ?_
 refine region_list ?_
 refine list_at 0 ?_; refine q_box 0 2 24 (.tmp 0) (.agg #[.int .i64 n, ve]) [.int .i64 n, ve] [(1, .agg #[vv, vl])] hA H fun b2 a w3 H hA hG hge_b2 => ?_
 clear hge_b2
 refine list_at 1 ?_; refine q_box 1 3 29 (.tmp 1) (.agg #[vv, vl]) [vv, vl] [(2, pv b2)] hA H fun b4 a w5 H hA hG hge_b4 => ?_
 clear hge_b4
 refine q_list 2 2 [] [(2, pv b2), (3, pv b4)] (TT ∧ TT ∧ True) hA H ⟨tv, tv, tv⟩ fun a w6 hA H hG => ?_
 refine list_end ?_
 refine hK1 _ _ ?_
 refine go_seq fun K7 hK7 => ?_
 refine region_list ?_
 refine q_list 0 2 [(17, .agg #[.int .i64 n, ve]), (18, .agg #[vv, vl])] [(2, pv b2), (17, .agg #[.int .i64 n, ve]), (18, .agg #[vv, vl])] (((Try.prog.info? 24).isSome = true ∧ RowOk (On w6) b2 (0) (Try.prog.cellsOf 24) #[.int .i64 n, ve]) ∧ ((Try.prog.info? 29).isSome = true ∧ RowOk (On w6) b4 (0) (Try.prog.cellsOf 29) #[vv, vl]) ∧ True) hA H ⟨⟨by kernel_rfl, by exact box_row H 1 rfl 0 2⟩, ⟨by kernel_rfl, by exact box_row H 0 rfl 0 2⟩, tv⟩ fun a w8 hA H hG => ?_
 refine list_at 2 ?_; refine q_call 2 19 47 #[.tmp 17, .tmp 18] #[24, 29] [.agg #[.int .i64 n, ve], .agg #[vv, vl]] (fun S v_ w' => ∃ p_, v_ = .tuple #[p_, .int .i64 (partE n E V L)] ∧ Rd S w' p_ ((blocksE n E V L))) [(2, pv b2)] hA H (by exact blocks_any n ve E vv vl V L H.at (by omega) ((H.arg hE)) ((H.arg hV)) ((H.arg hL))) fun v9 a w10 S hR11 H hA hG => ?_
 obtain ⟨v9p, rfl, hR11p⟩ := hR11
 replace H := H.ro hR11p
 replace H : Fr _ _ _ [.ro v9p (blocksE n E V L), .box b4 29 [vv, vl], .box b2 24 [.int .i64 n, ve]] := H
 refine q_list 3 5 [] [(2, pv b2), (6, v9p), (7, iv (partE n E V L))] (TT ∧ TT ∧ TT ∧ TT ∧ TT ∧ True) hA H ⟨tv, tv, tv, tv, tv, tv⟩ fun a w13 hA H hG => ?_
 refine list_end ?_
 refine hK7 _ _ ?_
 refine go_seq fun K14 hK14 => ?_
 refine go_seq fun K15 hK15 => ?_
 refine q_reg [] [(2, pv b2), (6, v9p), (7, iv (partE n E V L)), (23, .bool (!decide (partE n E V L = 0)))] (TT ∧ TT ∧ True) hA H ⟨tv, tv, tv⟩ fun a w16 hA H hG => ?_
 refine hK15 _ _ ?_
 refine go_cond hA (.tmp 23) (!decide (partE n E V L = 0)) (fun hb17 => ?_) (fun hb17 => ?_)
 · have hhb17 := of_decide_eq_false (nT hb17)
   refine go_seq fun K18 hK18 => ?_
   refine q_reg [] [(4, (.slice none 0 0)), (5, iv (partE n E V L))] (TT ∧ TT ∧ TT ∧ True) hA H ⟨tv, tv, tv, tv⟩ fun a w19 hA H hG => ?_
   refine hK18 _ _ ?_
   refine go_ret_ ?_
   refine ret_two 4 5 (.slice none 0 0) (.int .i64 (partE n E V L)) hA ?_
   exact ⟨_, rfl, ⟨_, rfl, by unfold cutsE; rw [if_pos hhb17]; exact rd_nil⟩, H.below⟩
 have hhb17 := of_decide_eq_true (nF hb17)
 refine go_skip ?_
 refine hK14 _ _ ?_
 refine go_seq fun K20 hK20 => ?_
 have hpt : partE n E V L = 0 := by omega
 have hbe : blocksE n E V L = blocksL n E V L := by unfold blocksE; rw [if_neg (by omega)]
 have hr9 := rightE_0 (part_iff.1 hpt).1
 have hbl9 := blocks_len n E V L
 have hl9 := rises_len (part_iff.1 hpt).2.2.1 (by omega)
 have hv9 := rises_len (part_iff.1 hpt).2.1 (by omega)
 simp only [hbe] at H
 refine region_list ?_
 refine q_list 0 2 [(26, iv n)] [(6, v9p), (26, iv n)] ((0 < Try.prog.cellsOf 3) ∧ (CellOk (On w16) b2 (0 + 0) (.int .i64 n)) ∧ True) hA H ⟨by decide +kernel, by exact box_cell H 2 rfl 0, tv⟩ fun a w21 hA H hG => ?_
 refine list_at 2 ?_; refine q_makeA 2 27 27 (.tmp 26) 3 n (.int .i64 0) [(6, v9p)] hA H Try.underlying27 (make_info (by kernel_rfl)) (by omega) (by omega) fun b22 a w23 H hA hG hge_b22 => ?_
 clear hge_b22
 replace H : Fr _ _ _ [.box b22 3 (arrV n fun j => .int .i64 (cnt0 j)), .ro v9p (blocksL n E V L), .box b4 29 [vv, vl], .box b2 24 [.int .i64 n, ve]] := H
 refine q_list 3 1 [] [(6, v9p), (8, (.slice (some ⟨b22, 0, none⟩) n.toNat n.toNat))] (TT ∧ True) hA H ⟨tv, tv⟩ fun a w24 hA H hG => ?_
 refine list_end ?_
 refine hK20 _ _ ?_
 refine go_seq fun K25 hK25 => ?_
 refine go_seq fun K26 hK26 => ?_
 refine q_reg [(29, iv ((blocksL n E V L).length : Int))] [(8, (.slice (some ⟨b22, 0, none⟩) n.toNat n.toNat)), (28, v9p), (29, iv ((blocksL n E V L).length : Int)), (30, iv 0)] (TT ∧ (LenOk v9p ((blocksL n E V L).length : Int)) ∧ TT ∧ True) hA H ⟨tv, by exact len_ok (H.get 1 rfl), tv, tv⟩ fun a w27 hA H hG => ?_
 refine hK26 _ _ ?_
 refine go_block 0 ?_
 refine go_loop_ (Int × (Int → Int)) (fun x_ a W => (fun (i : Int) (c : (Int → Int)) => EnvOk 64 a (keepEnv [(8, (.slice (some ⟨b22, 0, none⟩) n.toNat n.toNat)), (28, v9p), (29, iv ((blocksL n E V L).length : Int)), (30, iv i)]) ∧ (∃ S, Fr o W S [.box b22 3 (arrV n fun j => .int .i64 (c j)), .ro v9p (blocksL n E V L), .box b4 29 [vv, vl], .box b2 24 [.int .i64 n, ve]]) ∧ 0 ≤ i ∧ i ≤ ((blocksL n E V L).length : Int) ∧ ∀ v, c v = cntI ((blocksL n E V L).take i.toNat) v) x_.1 x_.2) (fun x_ => (fun (i : Int) (c : (Int → Int)) => (((blocksL n E V L).length : Int) - i).toNat) x_.1 x_.2) (0, cnt0) ?_ (fun x_ a w29 hI => ?_)
 · (try dsimp only); exact ⟨env_sub _ hA, ⟨_, H⟩, by omega, by omega, fun v => by simp [cnt0, cntI, hasIn]⟩
 obtain ⟨i, c⟩ := x_
 obtain ⟨hA, ⟨S, H⟩, h0, h0b, hc⟩ := hI
 try dsimp only at h0 h0b hc
 replace H : Fr _ _ _ [.box b22 3 (arrV n fun j => .int .i64 (c j)), .ro v9p (blocksL n E V L), .box b4 29 [vv, vl], .box b2 24 [.int .i64 n, ve]] := H
 refine go_seq fun K30 hK30 => ?_
 refine q_reg [] [(8, (.slice (some ⟨b22, 0, none⟩) n.toNat n.toNat)), (28, v9p), (29, iv ((blocksL n E V L).length : Int)), (30, iv i), (31, .bool (decide (i < ((blocksL n E V L).length : Int))))] (TT ∧ True) hA H ⟨tv, tv⟩ fun a w31 hA H hG => ?_
 refine hK30 _ _ ?_
 refine go_seq fun K32 hK32 => ?_
 refine go_cond hA (.tmp 31) (decide (i < ((blocksL n E V L).length : Int))) (fun hb33 => ?_) (fun hb33 => ?_)
 · have hhb33 := of_decide_eq_true hb33
   refine go_skip ?_
   refine hK32 _ _ ?_
   refine go_seq fun K34 hK34 => ?_
   refine go_block 1 ?_
   refine go_seq fun K35 hK35 => ?_
   have hbm := getD_mem (l := blocksL n E V L) (i := i.toNat) (d := ([], [])) (by omega)
   obtain ⟨q1, q2, q3, q4⟩ := block_rises hpt hbm
   have q5 := rises_len q1 (by omega); have q6 := rises_len q2 (by omega)
   refine region_list ?_
   obtain ⟨ea36, eb37, hea36c, hea36a, hea36b⟩ := cell_twoC (C := On w31) H.keepsS (H.getS 1 rfl) i
   replace H := (H.ro (hea36a (by omega) (by omega))).sink 1 4
   replace H := (H.ro (hea36b (by omega) (by omega))).sink 1 5
   replace H : Fr _ _ _ [.box b22 3 (arrV n fun j => .int .i64 (c j)), .ro v9p (blocksL n E V L), .box b4 29 [vv, vl], .box b2 24 [.int .i64 n, ve], .ro ea36 ((blocksL n E V L).getD i.toNat ([], [])).1, .ro eb37 ((blocksL n E V L).getD i.toNat ([], [])).2] := H
   refine q_list 0 2 [(33, .agg #[ea36, eb37])] [(8, (.slice (some ⟨b22, 0, none⟩) n.toNat n.toNat)), (28, v9p), (29, iv ((blocksL n E V L).length : Int)), (30, iv i), (33, .agg #[ea36, eb37])] (((Try.prog.info? 29).isSome = true ∧ IdxOk v9p i) ∧ ((Try.prog.info? 29).isSome = true ∧ RowOk (On w31) (hdB v9p) (hdO v9p + i.toNat * 2) (Try.prog.cellsOf 29) #[ea36, eb37]) ∧ True) hA H ⟨⟨by kernel_rfl, by exact idx_ok (H.get 1 rfl) (by omega) (by omega)⟩, ⟨by kernel_rfl, by exact hea36c (by omega) (by omega)⟩, tv⟩ fun a w38 hA H hG => ?_
   refine list_at 2 ?_; refine q_alloc 2 10 29 [(.slice none 0 0), (.slice none 0 0)] [(8, (.slice (some ⟨b22, 0, none⟩) n.toNat n.toNat)), (28, v9p), (29, iv ((blocksL n E V L).length : Int)), (30, iv i), (33, .agg #[ea36, eb37])] hA H fun b39 a w40 H hA hG hge_b39 => ?_
   clear hge_b39
   refine list_at 3 ?_; refine q_store 3 29 (.tmp 10) (.tmp 33) 0 b39 (0) 29 [(.slice none 0 0), (.slice none 0 0)] [ea36, eb37] [ea36, eb37] (.agg #[ea36, eb37]) [(8, (.slice (some ⟨b22, 0, none⟩) n.toNat n.toNat)), (10, pv b39), (28, v9p), (29, iv ((blocksL n E V L).length : Int)), (30, iv i)] hA H rfl rfl (Nat.le_of_ble_eq_true (by kernel_rfl)) rfl (fun v hv => by simp only [List.mem_cons, List.not_mem_nil, or_false] at hv; rcases hv with rfl | rfl; exact (rd_one (H.get 5 rfl)); exact (rd_one (H.get 6 rfl))) fun a w41 H hA hG => ?_
   replace H : Fr _ _ _ [.box b39 29 [ea36, eb37], .box b22 3 (arrV n fun j => .int .i64 (c j)), .ro v9p (blocksL n E V L), .box b4 29 [vv, vl], .box b2 24 [.int .i64 n, ve], .ro ea36 ((blocksL n E V L).getD i.toNat ([], [])).1, .ro eb37 ((blocksL n E V L).getD i.toNat ([], [])).2] := H
   refine list_end ?_
   refine hK35 _ _ ?_
   refine go_seq fun K42 hK42 => ?_
   refine q_reg [(35, ea36), (36, iv ((((blocksL n E V L).getD i.toNat ([], [])).1).length : Int))] [(8, (.slice (some ⟨b22, 0, none⟩) n.toNat n.toNat)), (28, v9p), (29, iv ((blocksL n E V L).length : Int)), (30, iv i), (35, ea36), (36, iv ((((blocksL n E V L).getD i.toNat ([], [])).1).length : Int)), (37, iv 0)] ((0 < Try.prog.cellsOf 27) ∧ (CellOk (On w41) b39 (0 + 0) (ea36)) ∧ (LenOk ea36 ((((blocksL n E V L).getD i.toNat ([], [])).1).length : Int)) ∧ TT ∧ True) hA H ⟨by decide +kernel, by exact box_cell H 0 rfl 0, by exact len_ok (H.get 5 rfl), tv, tv⟩ fun a w43 hA H hG => ?_
   refine hK42 _ _ ?_
   refine go_block 2 ?_
   refine go_loop_ (Int × (Int → Int)) (fun x_ a W => (fun (k : Int) (d : (Int → Int)) => EnvOk 64 a (keepEnv [(8, (.slice (some ⟨b22, 0, none⟩) n.toNat n.toNat)), (28, v9p), (29, iv ((blocksL n E V L).length : Int)), (30, iv i), (35, ea36), (36, iv ((((blocksL n E V L).getD i.toNat ([], [])).1).length : Int)), (37, iv k)]) ∧ (∃ S, Fr o W S [.box b39 29 [ea36, eb37], .box b22 3 (arrV n fun j => .int .i64 (d j)), .ro v9p (blocksL n E V L), .box b4 29 [vv, vl], .box b2 24 [.int .i64 n, ve], .ro ea36 ((blocksL n E V L).getD i.toNat ([], [])).1, .ro eb37 ((blocksL n E V L).getD i.toNat ([], [])).2]) ∧ 0 ≤ k ∧ ∀ v, d v = cntI ((blocksL n E V L).take i.toNat) v + (if v ∈ ((blocksL n E V L).getD i.toNat ([], [])).1.take k.toNat then 1 else 0)) x_.1 x_.2) (fun x_ => (fun (k : Int) (d : (Int → Int)) => ((((blocksL n E V L).getD i.toNat ([], [])).1.length : Int) - k).toNat) x_.1 x_.2) (0, c) ?_ (fun x_ a w45 hI => ?_)
   · (try dsimp only); exact ⟨env_sub _ hA, ⟨_, H⟩, by omega, fun v => by rw [hc v]; simp⟩
   obtain ⟨k, d⟩ := x_
   obtain ⟨hA, ⟨S, H⟩, k0, hd⟩ := hI
   try dsimp only at k0 hd
   replace H : Fr _ _ _ [.box b39 29 [ea36, eb37], .box b22 3 (arrV n fun j => .int .i64 (d j)), .ro v9p (blocksL n E V L), .box b4 29 [vv, vl], .box b2 24 [.int .i64 n, ve], .ro ea36 ((blocksL n E V L).getD i.toNat ([], [])).1, .ro eb37 ((blocksL n E V L).getD i.toNat ([], [])).2] := H
   refine go_seq fun K46 hK46 => ?_
   refine q_reg [] [(8, (.slice (some ⟨b22, 0, none⟩) n.toNat n.toNat)), (28, v9p), (29, iv ((blocksL n E V L).length : Int)), (30, iv i), (35, ea36), (36, iv ((((blocksL n E V L).getD i.toNat ([], [])).1).length : Int)), (37, iv k), (38, .bool (decide (k < ((((blocksL n E V L).getD i.toNat ([], [])).1).length : Int))))] (TT ∧ True) hA H ⟨tv, tv⟩ fun a w47 hA H hG => ?_
   refine hK46 _ _ ?_
   refine go_seq fun K48 hK48 => ?_
   refine go_cond hA (.tmp 38) (decide (k < ((((blocksL n E V L).getD i.toNat ([], [])).1).length : Int))) (fun hb49 => ?_) (fun hb49 => ?_)
   · have hhb49 := of_decide_eq_true hb49
     refine go_skip ?_
     refine hK48 _ _ ?_
     refine go_seq fun K50 hK50 => ?_
     refine go_block 3 ?_
     refine go_seq fun K51 hK51 => ?_
     have hx9 := (rises_iff.1 q1).2 _ (mem_getD.2 ⟨k.toNat, by omega, rfl⟩)
     refine q_reg [(40, iv ((((blocksL n E V L).getD i.toNat ([], [])).1).getD k.toNat 0))] [(8, (.slice (some ⟨b22, 0, none⟩) n.toNat n.toNat)), (12, iv ((((blocksL n E V L).getD i.toNat ([], [])).1).getD k.toNat 0)), (28, v9p), (29, iv ((blocksL n E V L).length : Int)), (30, iv i), (35, ea36), (36, iv ((((blocksL n E V L).getD i.toNat ([], [])).1).length : Int)), (37, iv k)] (((Try.prog.info? 3).isSome = true ∧ IdxOk ea36 k) ∧ (CellOk (On w47) (hdB ea36) (hdO ea36 + k.toNat * 1) (.int .i64 ((((blocksL n E V L).getD i.toNat ([], [])).1).getD k.toNat 0))) ∧ TT ∧ True) hA H ⟨⟨by kernel_rfl, by exact idx_ok (H.get 5 rfl) (by omega) (by omega)⟩, by exact cell_flat (i := k) (H.get 5 rfl) (by omega) (by omega) 0 0, tv, tv⟩ fun a w52 hA H hG => ?_
     refine hK51 _ _ ?_
     have hd9 := hd (((blocksL n E V L).getD i.toNat ([], [])).1.getD k.toNat 0)
     have hd8 := cntI_le ((blocksL n E V L).take i.toNat) (((blocksL n E V L).getD i.toNat ([], [])).1.getD k.toNat 0)
     rw [List.length_take] at hd8
     have hd7 : (0 : Int) ≤ d (((blocksL n E V L).getD i.toNat ([], [])).1.getD k.toNat 0) ∧ d (((blocksL n E V L).getD i.toNat ([], [])).1.getD k.toNat 0) ≤ 1000000 := by rw [hd9]; split <;> omega
     refine region_list ?_
     refine q_list 0 6 [(44, iv (d ((((blocksL n E V L).getD i.toNat ([], [])).1).getD k.toNat 0)))] [(8, (.slice (some ⟨b22, 0, none⟩) n.toNat n.toNat)), (28, v9p), (29, iv ((blocksL n E V L).length : Int)), (30, iv i), (35, ea36), (36, iv ((((blocksL n E V L).getD i.toNat ([], [])).1).length : Int)), (37, iv k), (45, iv ((d ((((blocksL n E V L).getD i.toNat ([], [])).1).getD k.toNat 0)) + 1)), (46, .pointer (some ⟨b22, 0 + ((((blocksL n E V L).getD i.toNat ([], [])).1).getD k.toNat 0).toNat * 1, none⟩))] (TT ∧ TT ∧ ((Try.prog.info? 3).isSome = true ∧ IdxOk (.slice (some ⟨b22, 0, none⟩) n.toNat n.toNat) ((((blocksL n E V L).getD i.toNat ([], [])).1).getD k.toNat 0)) ∧ (CellOk (On w52) b22 (0 + ((((blocksL n E V L).getD i.toNat ([], [])).1).getD k.toNat 0).toNat * 1) (.int .i64 (d ((((blocksL n E V L).getD i.toNat ([], [])).1).getD k.toNat 0)))) ∧ (InR .i64 ((d ((((blocksL n E V L).getD i.toNat ([], [])).1).getD k.toNat 0)) + 1)) ∧ ((Try.prog.info? 3).isSome = true ∧ IdxOk (.slice (some ⟨b22, 0, none⟩) n.toNat n.toNat) ((((blocksL n E V L).getD i.toNat ([], [])).1).getD k.toNat 0)) ∧ True) hA H ⟨tv, tv, ⟨by kernel_rfl, arr_idx (by omega) (by omega)⟩, by exact arr_cell H 1 rfl (by omega) (by omega), ⟨by omega, by omega⟩, ⟨by kernel_rfl, arr_idx (by omega) (by omega)⟩, tv⟩ fun a w53 hA H hG => ?_
     refine list_at 6 ?_; refine q_store 6 3 (.tmp 46) (.tmp 45) 1 b22 (0 + ((((blocksL n E V L).getD i.toNat ([], [])).1).getD k.toNat 0).toNat * 1) 3 ((arrV n fun j => .int .i64 (d j))) [.int .i64 ((d ((((blocksL n E V L).getD i.toNat ([], [])).1).getD k.toNat 0)) + 1)] ((arrV n fun j => .int .i64 ((Deep.upd d ((((blocksL n E V L).getD i.toNat ([], [])).1).getD k.toNat 0) ((d ((((blocksL n E V L).getD i.toNat ([], [])).1).getD k.toNat 0)) + 1)) j))) (.int .i64 ((d ((((blocksL n E V L).getD i.toNat ([], [])).1).getD k.toNat 0)) + 1)) [(8, (.slice (some ⟨b22, 0, none⟩) n.toNat n.toNat)), (28, v9p), (29, iv ((blocksL n E V L).length : Int)), (30, iv i), (35, ea36), (36, iv ((((blocksL n E V L).getD i.toNat ([], [])).1).length : Int)), (37, iv k)] hA H rfl rfl (arr_room (by omega) (by omega)) (arr_set (by omega) (by omega) (congrArg (Value.int .i64) (Deep.upd_same _ _ _)) (fun j hj => congrArg (Value.int .i64) (Deep.upd_ne _ _ hj))) (fun v hv => by simp only [List.mem_cons, List.not_mem_nil, or_false] at hv; rcases hv with rfl; exact rfl) fun a w54 H hA hG => ?_
     replace H : Fr _ _ _ [.box b39 29 [ea36, eb37], .box b22 3 (arrV n fun j => .int .i64 ((Deep.upd d ((((blocksL n E V L).getD i.toNat ([], [])).1).getD k.toNat 0) ((d ((((blocksL n E V L).getD i.toNat ([], [])).1).getD k.toNat 0)) + 1)) j)), .ro v9p (blocksL n E V L), .box b4 29 [vv, vl], .box b2 24 [.int .i64 n, ve], .ro ea36 ((blocksL n E V L).getD i.toNat ([], [])).1, .ro eb37 ((blocksL n E V L).getD i.toNat ([], [])).2] := H
     refine list_end ?_
     refine hK50 _ _ ?_
     refine q_reg [] [(8, (.slice (some ⟨b22, 0, none⟩) n.toNat n.toNat)), (28, v9p), (29, iv ((blocksL n E V L).length : Int)), (30, iv i), (35, ea36), (36, iv ((((blocksL n E V L).getD i.toNat ([], [])).1).length : Int)), (37, iv (k + 1))] ((InR .i64 (k + 1)) ∧ TT ∧ True) hA H ⟨⟨by omega, by omega⟩, tv, tv⟩ fun a w55 hA H hG => ?_
     refine ⟨(k + 1, Deep.upd d ((((blocksL n E V L).getD i.toNat ([], [])).1).getD k.toNat 0) ((d ((((blocksL n E V L).getD i.toNat ([], [])).1).getD k.toNat 0)) + 1)), ⟨env_sub _ hA, ⟨_, H⟩, ?_⟩, ?_⟩
     · (try dsimp only); exact ⟨by omega, fun v => cnt_step k0 (by omega) (asc_nodup (rises_iff.1 q1).1) hd v⟩
     (try dsimp only); omega
   have hhb49 := of_decide_eq_false hb49
   refine go_exit 2 ?_
   refine hK34 _ _ ?_
   refine q_reg [] [(8, (.slice (some ⟨b22, 0, none⟩) n.toNat n.toNat)), (28, v9p), (29, iv ((blocksL n E V L).length : Int)), (30, iv (i + 1))] ((InR .i64 (i + 1)) ∧ TT ∧ True) hA H ⟨⟨by omega, by omega⟩, tv, tv⟩ fun a w56 hA H hG => ?_
   replace H := H.drop 6
   replace H := H.drop 5
   replace H := H.drop 0
   refine ⟨(i + 1, d), ⟨env_sub _ hA, ⟨_, H⟩, ?_⟩, ?_⟩
   · (try dsimp only); exact ⟨by omega, by omega, fun v => by rw [hd v, show ((blocksL n E V L).getD i.toNat ([], [])).1.take k.toNat = ((blocksL n E V L).getD i.toNat ([], [])).1 from List.take_of_length_le (by omega), cntI_snoc h0 (by omega)]⟩
   (try dsimp only); omega
 have hhb33 := of_decide_eq_false hb33
 refine go_exit 0 ?_
 refine hK25 _ _ ?_
 refine go_seq fun K57 hK57 => ?_
 refine q_reg [] [(8, (.slice (some ⟨b22, 0, none⟩) n.toNat n.toNat)), (13, (.slice none 0 0))] (TT ∧ True) hA H ⟨tv, tv⟩ fun a w58 hA H hG => ?_
 refine hK57 _ _ ?_
 refine go_seq fun K59 hK59 => ?_
 refine go_seq fun K60 hK60 => ?_
 refine q_reg [(50, iv n)] [(13, (.slice none 0 0)), (49, (.slice (some ⟨b22, 0, none⟩) n.toNat n.toNat)), (50, iv n), (51, iv 0)] (TT ∧ (LenOk (.slice (some ⟨b22, 0, none⟩) n.toNat n.toNat) n) ∧ TT ∧ True) hA H ⟨tv, arr_len_ok (by omega), tv, tv⟩ fun a w61 hA H hG => ?_
 refine hK60 _ _ ?_
 refine go_block 4 ?_
 replace H := H.newRow (α := Int) 3
 refine go_loop_ (Int × Value × List Int) (fun x_ a W => (fun (j : Int) (vr : Value) (l : List Int) => EnvOk 64 a (keepEnv [(13, vr), (49, (.slice (some ⟨b22, 0, none⟩) n.toNat n.toNat)), (50, iv n), (51, iv j)]) ∧ (∃ S, Fr o W S [.row 3 vr l, .box b22 3 (arrV n fun j => .int .i64 (c j)), .ro v9p (blocksL n E V L), .box b4 29 [vv, vl], .box b2 24 [.int .i64 n, ve]]) ∧ 0 ≤ j ∧ j ≤ n ∧ (l.length : Int) ≤ j ∧ l = (upto j).filter (fun v => decide (1 < cntI (blocksL n E V L) v))) x_.1 x_.2.1 x_.2.2) (fun x_ => (fun (j : Int) (vr : Value) (l : List Int) => (n - j).toNat) x_.1 x_.2.1 x_.2.2) (0, .slice none 0 0, []) ?_ (fun x_ a w63 hI => ?_)
 · (try dsimp only); exact ⟨env_sub _ hA, ⟨_, H⟩, by omega, by omega, by simp, rfl⟩
 obtain ⟨j, vr, l⟩ := x_
 obtain ⟨hA, ⟨S, H⟩, j0, j0b, j1, hj⟩ := hI
 try dsimp only at j0 j0b j1 hj
 replace H : Fr _ _ _ [.row 3 vr l, .box b22 3 (arrV n fun j => .int .i64 (c j)), .ro v9p (blocksL n E V L), .box b4 29 [vv, vl], .box b2 24 [.int .i64 n, ve]] := H
 refine go_seq fun K64 hK64 => ?_
 refine q_reg [] [(13, vr), (49, (.slice (some ⟨b22, 0, none⟩) n.toNat n.toNat)), (50, iv n), (51, iv j), (52, .bool (decide (j < n)))] (TT ∧ True) hA H ⟨tv, tv⟩ fun a w65 hA H hG => ?_
 refine hK64 _ _ ?_
 refine go_seq fun K66 hK66 => ?_
 refine go_cond hA (.tmp 52) (decide (j < n)) (fun hb67 => ?_) (fun hb67 => ?_)
 · have hhb67 := of_decide_eq_true hb67
   refine go_skip ?_
   refine hK66 _ _ ?_
   refine go_seq fun K68 hK68 => ?_
   refine go_block 5 ?_
   refine go_seq fun K69 hK69 => ?_
   refine q_reg [(55, iv (c j))] [(13, vr), (14, iv j), (15, iv (c j)), (49, (.slice (some ⟨b22, 0, none⟩) n.toNat n.toNat)), (50, iv n), (51, iv j)] (TT ∧ ((Try.prog.info? 3).isSome = true ∧ IdxOk (.slice (some ⟨b22, 0, none⟩) n.toNat n.toNat) j) ∧ (CellOk (On w65) b22 (0 + j.toNat * 1) (.int .i64 (c j))) ∧ TT ∧ TT ∧ True) hA H ⟨tv, ⟨by kernel_rfl, arr_idx (by omega) (by omega)⟩, by exact arr_cell H 1 rfl (by omega) (by omega), tv, tv, tv⟩ fun a w70 hA H hG => ?_
   refine hK69 _ _ ?_
   refine go_seq fun K71 hK71 => ?_
   refine q_reg [] [(13, vr), (14, iv j), (49, (.slice (some ⟨b22, 0, none⟩) n.toNat n.toNat)), (50, iv n), (51, iv j), (57, .bool (decide ((1 : Int) < c j)))] (TT ∧ TT ∧ True) hA H ⟨tv, tv, tv⟩ fun a w72 hA H hG => ?_
   refine hK71 _ _ ?_
   refine go_cond hA (.tmp 57) (decide ((1 : Int) < c j)) (fun hb73 => ?_) (fun hb73 => ?_)
   · have hhb73 := of_decide_eq_true hb73
     refine region_list ?_
     refine q_list 0 2 [] [(49, (.slice (some ⟨b22, 0, none⟩) n.toNat n.toNat)), (50, iv n), (51, iv j), (58, vr), (59, iv j)] (TT ∧ TT ∧ True) hA H ⟨tv, tv, tv⟩ fun a w74 hA H hG => ?_
     refine list_at 2 ?_; refine q_lit 2 60 27 1 #[(0, .tmp 59)] 3 [(0, iv j)] [.int .i64 j] [(49, (.slice (some ⟨b22, 0, none⟩) n.toNat n.toNat)), (50, iv n), (51, iv j), (58, vr)] hA H fun b75 a w76 H hA hG hge_b75 => ?_
     clear hge_b75
     refine list_at 3 ?_; refine q_push 3 61 (.tmp 58) (.tmp 60) 1 0 b75 1 1 vr l [j] [.int .i64 j] [(49, (.slice (some ⟨b22, 0, none⟩) n.toNat n.toNat)), (50, iv n), (51, iv j)] hA H Try.E27 rfl rfl (by exact (RowRd.single (α := Int) rfl)) rfl (by simp only [List.length_cons, List.length_nil, List.length_append]; omega) (by decide) fun v77 a w78 H hA hG => ?_
     replace H : Fr _ _ _ [.row 3 v77 (l ++ [j]), .box b22 3 (arrV n fun j => .int .i64 (c j)), .ro v9p (blocksL n E V L), .box b4 29 [vv, vl], .box b2 24 [.int .i64 n, ve]] := H.drop 0
     refine q_list 4 1 [] [(13, v77), (49, (.slice (some ⟨b22, 0, none⟩) n.toNat n.toNat)), (50, iv n), (51, iv j)] (TT ∧ True) hA H ⟨tv, tv⟩ fun a w79 hA H hG => ?_
     refine list_end ?_
     refine hK68 _ _ ?_
     refine q_reg [] [(13, v77), (49, (.slice (some ⟨b22, 0, none⟩) n.toNat n.toNat)), (50, iv n), (51, iv (j + 1))] ((InR .i64 (j + 1)) ∧ TT ∧ True) hA H ⟨⟨by omega, by omega⟩, tv, tv⟩ fun a w80 hA H hG => ?_
     refine ⟨(j + 1, v77, l ++ [j]), ⟨env_sub _ hA, ⟨_, H⟩, ?_⟩, ?_⟩
     · (try dsimp only); exact ⟨by omega, by omega, by (try simp only [List.length_append, List.length_cons, List.length_nil]); omega, by rw [hj, upto_succ j0, List.filter_append, List.filter_cons]; rw [hc j, List.take_of_length_le (by omega)] at hhb73; rw [if_pos (decide_eq_true hhb73)]; rfl⟩
     (try dsimp only); omega
   have hhb73 := of_decide_eq_false hb73
   refine go_skip ?_
   refine hK68 _ _ ?_
   refine q_reg [] [(13, vr), (49, (.slice (some ⟨b22, 0, none⟩) n.toNat n.toNat)), (50, iv n), (51, iv (j + 1))] ((InR .i64 (j + 1)) ∧ TT ∧ True) hA H ⟨⟨by omega, by omega⟩, tv, tv⟩ fun a w81 hA H hG => ?_
   refine ⟨(j + 1, vr, l), ⟨env_sub _ hA, ⟨_, H⟩, ?_⟩, ?_⟩
   · (try dsimp only); exact ⟨by omega, by omega, by (try simp only [List.length_append, List.length_cons, List.length_nil]); omega, by rw [hj, upto_succ j0, List.filter_append, List.filter_cons]; rw [hc j, List.take_of_length_le (by omega)] at hhb73; rw [if_neg (by rw [decide_eq_true_eq]; exact hhb73)]; simp⟩
   (try dsimp only); omega
 have hhb67 := of_decide_eq_false hb67
 refine go_exit 4 ?_
 refine hK59 _ _ ?_
 refine go_seq fun K82 hK82 => ?_
 refine q_reg [] [(4, vr), (5, iv 0)] (TT ∧ TT ∧ TT ∧ True) hA H ⟨tv, tv, tv, tv⟩ fun a w83 hA H hG => ?_
 refine hK82 _ _ ?_
 refine go_ret_ ?_
 refine ret_two 4 5 vr (.int .i64 0) hA ?_
 have ho := (H.give 0 rfl)
 obtain rfl : j = n := by omega
 rw [cuts_upto hpt] at hj; rw [hj] at ho; exact ⟨_, rfl, ⟨_, by rw [hpt], by unfold cutsE; rw [if_neg (by omega)]; exact ho⟩, H.below⟩
theorem beside_any (n : Int) (ve : Value) (E : List (Int × Int)) (vv vl : Value) (V L : List Int) (u : Int) (o : Orig) (hn : -9223372036854775808 ≤ n ∧ n ≤ 9223372036854775807) (hE : Rd (· < o.w.heap.size) o.w ve E) (hV : Rd (· < o.w.heap.size) o.w vv V) (hL : Rd (· < o.w.heap.size) o.w vl L) (hu : wfI u) (hwv : ∀ x ∈ V, wfI x) (hin : ∀ j, j < L.length → 0 ≤ L.getD j 0 ∧ L.getD j 0 < (E.length : Int)) (hw9 : ∀ j, j < E.length → wfI (E.getD j (0, 0)).1 ∧ wfI (E.getD j (0, 0)).2) (hs1 : V.length ≤ 100000) (hs2 : L.length ≤ 100000) :
 Calls Try.prog 91 [.agg #[.int .i64 n, ve], .agg #[vv, vl], .int .i64 u].toArray o.w (Giv o (fun S v w' => Rd S w' v (besideE n E V L u))) := by
 unfold wfI at hu hw9
 refine enter Try.f91 92 Try.func91 fun a hA => ?_
 replace hA := env_sub [(0, .agg #[.int .i64 n, ve]), (1, .agg #[vv, vl]), (2, iv u)] hA
 have H := Fr.start o
 refine go_seq fun K1 hK1 => ?_
 refine region_list ?_
 refine list_at 0 ?_; refine q_box 0 3 24 (.tmp 0) (.agg #[.int .i64 n, ve]) [.int .i64 n, ve] [(1, .agg #[vv, vl]), (2, iv u)] hA H fun b2 a w3 H hA hG hge_b2 => ?_
 clear hge_b2
 refine list_at 1 ?_; refine q_box 1 4 29 (.tmp 1) (.agg #[vv, vl]) [vv, vl] [(2, iv u), (3, pv b2)] hA H fun b4 a w5 H hA hG hge_b4 => ?_
 clear hge_b4
 refine list_at 2 ?_; refine q_box 2 5 3 (.tmp 2) (.int .i64 u) [.int .i64 u] [(3, pv b2), (4, pv b4)] hA H fun b6 a w7 H hA hG hge_b6 => ?_
 clear hge_b6
 refine q_list 3 1 [] [(3, pv b2), (4, pv b4), (5, pv b6)] (TT ∧ True) hA H ⟨tv, tv⟩ fun a w8 hA H hG => ?_
 refine list_end ?_
 refine hK1 _ _ ?_
 refine go_seq fun K9 hK9 => ?_
 refine region_list ?_
 refine list_at 0 ?_; refine q_alloc 0 7 29 [(.slice none 0 0), (.slice none 0 0)] [(3, pv b2), (4, pv b4), (5, pv b6)] hA H fun b10 a w11 H hA hG hge_b10 => ?_
 clear hge_b10
 replace H := H.newRow (α := Int) 3
 replace H := H.newRow (α := Int) 3
 refine list_end ?_
 refine hK9 _ _ ?_
 refine go_seq fun K12 hK12 => ?_
 refine region_list ?_
 refine list_at 0 ?_; refine q_makeMap Int 3 0 15 130 [(3, pv b2), (4, pv b4), (5, pv b6), (7, pv b10)] hA H fun b13 a w14 H hA hG hge_b13 => ?_
 clear hge_b13
 replace H : Fr _ _ _ [mapN Try.prog 3 b13 [], .row 3 (.slice none 0 0) ([] : List Int), .row 3 (.slice none 0 0) ([] : List Int), .box b10 29 [(.slice none 0 0), (.slice none 0 0)], .box b6 3 [.int .i64 u], .box b4 29 [vv, vl], .box b2 24 [.int .i64 n, ve]] := H
 refine list_at 1 ?_; refine q_alloc 1 8 130 [(.map none)] [(3, pv b2), (4, pv b4), (5, pv b6), (7, pv b10), (15, (.map (some b13)))] hA H fun b15 a w16 H hA hG hge_b15 => ?_
 clear hge_b15
 refine list_at 2 ?_; refine q_store 2 130 (.tmp 8) (.tmp 15) 0 b15 (0) 130 [(.map none)] [(.map (some b13))] [(.map (some b13))] (.map (some b13)) [(3, pv b2), (4, pv b4), (5, pv b6), (7, pv b10), (8, pv b15)] hA H rfl rfl (Nat.le_of_ble_eq_true (by kernel_rfl)) rfl (fun v hv => by simp only [List.mem_cons, List.not_mem_nil, or_false] at hv; rcases hv with rfl; exact rfl) fun a w17 H hA hG => ?_
 replace H : Fr _ _ _ [.box b15 130 [(.map (some b13))], mapN Try.prog 3 b13 [], .row 3 (.slice none 0 0) ([] : List Int), .row 3 (.slice none 0 0) ([] : List Int), .box b10 29 [(.slice none 0 0), (.slice none 0 0)], .box b6 3 [.int .i64 u], .box b4 29 [vv, vl], .box b2 24 [.int .i64 n, ve]] := H
 refine list_end ?_
 refine hK12 _ _ ?_
 refine go_seq fun K18 hK18 => ?_
 refine go_seq fun K19 hK19 => ?_
 refine q_reg [(17, vv), (18, iv (V.length : Int))] [(3, pv b2), (4, pv b4), (5, pv b6), (7, pv b10), (8, pv b15), (17, vv), (18, iv (V.length : Int)), (19, iv 0)] ((0 < Try.prog.cellsOf 27) ∧ (CellOk (On w17) b4 (0 + 0) (vv)) ∧ (LenOk vv (V.length : Int)) ∧ TT ∧ True) hA H ⟨by decide +kernel, by exact box_cell H 6 rfl 0, by exact len_ok (H.arg hV), tv, tv⟩ fun a w20 hA H hG => ?_
 refine hK19 _ _ ?_
 refine go_block 0 ?_
 replace H := Fr.order [.box b15 130 [(.map (some b13))], mapN Try.prog 3 b13 [], .row 3 (.slice none 0 0) ([] : List Int), .row 3 (.slice none 0 0) ([] : List Int), .box b10 29 [(.slice none 0 0), (.slice none 0 0)], .box b6 3 [.int .i64 u], .box b4 29 [vv, vl], .box b2 24 [.int .i64 n, ve]] [] H [2, 3, 4, 0, 1, 5, 6, 7] (by show List.Perm _ (List.range 8); decide)
 replace H : Fr _ _ _ [.row 3 (.slice none 0 0) ([] : List Int), .row 3 (.slice none 0 0) ([] : List Int), .box b10 29 [(.slice none 0 0), (.slice none 0 0)], .box b15 130 [(.map (some b13))], mapN Try.prog 3 b13 [], .box b6 3 [.int .i64 u], .box b4 29 [vv, vl], .box b2 24 [.int .i64 n, ve]] := H
 refine go_loop_ (Int × Value × List Int) (fun x_ a W => (fun (i : Int) (va : Value) (la : List Int) => EnvOk 92 a (keepEnv [(3, pv b2), (4, pv b4), (5, pv b6), (7, pv b10), (8, pv b15), (17, vv), (18, iv (V.length : Int)), (19, iv i)]) ∧ (∃ S, Fr o W S [.row 3 (.slice none 0 0) ([] : List Int), .row 3 va la, .box b10 29 [va, (.slice none 0 0)], .box b15 130 [(.map (some b13))], mapN Try.prog 3 b13 [], .box b6 3 [.int .i64 u], .box b4 29 [vv, vl], .box b2 24 [.int .i64 n, ve]]) ∧ 0 ≤ i ∧ i ≤ (V.length : Int) ∧ (la.length : Int) ≤ i ∧ la = butV u (V.take i.toNat)) x_.1 x_.2.1 x_.2.2) (fun x_ => (fun (i : Int) (va : Value) (la : List Int) => ((V.length : Int) - i).toNat) x_.1 x_.2.1 x_.2.2) (0, .slice none 0 0, []) ?_ (fun x_ a w22 hI => ?_)
 · (try dsimp only); exact ⟨env_sub _ hA, ⟨_, H⟩, by omega, by omega, by simp, rfl⟩
 obtain ⟨i, va, la⟩ := x_
 obtain ⟨hA, ⟨S, H⟩, h0, h0b, h1, hi⟩ := hI
 try dsimp only at h0 h0b h1 hi
 replace H : Fr _ _ _ [.row 3 (.slice none 0 0) ([] : List Int), .row 3 va la, .box b10 29 [va, (.slice none 0 0)], .box b15 130 [(.map (some b13))], mapN Try.prog 3 b13 [], .box b6 3 [.int .i64 u], .box b4 29 [vv, vl], .box b2 24 [.int .i64 n, ve]] := H
 refine go_seq fun K23 hK23 => ?_
 refine q_reg [] [(3, pv b2), (4, pv b4), (5, pv b6), (7, pv b10), (8, pv b15), (17, vv), (18, iv (V.length : Int)), (19, iv i), (20, .bool (decide (i < (V.length : Int))))] (TT ∧ True) hA H ⟨tv, tv⟩ fun a w24 hA H hG => ?_
 refine hK23 _ _ ?_
 refine go_seq fun K25 hK25 => ?_
 refine go_cond hA (.tmp 20) (decide (i < (V.length : Int))) (fun hb26 => ?_) (fun hb26 => ?_)
 · have hhb26 := of_decide_eq_true hb26
   refine go_skip ?_
   refine hK25 _ _ ?_
   refine go_seq fun K27 hK27 => ?_
   refine go_block 1 ?_
   refine go_seq fun K28 hK28 => ?_
   refine q_reg [(22, iv (V.getD i.toNat 0))] [(3, pv b2), (4, pv b4), (5, pv b6), (7, pv b10), (8, pv b15), (10, iv (V.getD i.toNat 0)), (17, vv), (18, iv (V.length : Int)), (19, iv i)] (((Try.prog.info? 3).isSome = true ∧ IdxOk vv i) ∧ (CellOk (On w24) (hdB vv) (hdO vv + i.toNat * 1) (.int .i64 (V.getD i.toNat 0))) ∧ TT ∧ True) hA H ⟨⟨by kernel_rfl, by exact idx_ok (H.arg hV) (by omega) (by omega)⟩, by exact cell_flat (i := i) (H.arg hV) (by omega) (by omega) 0 0, tv, tv⟩ fun a w29 hA H hG => ?_
   refine hK28 _ _ ?_
   refine go_seq fun K30 hK30 => ?_
   refine q_reg [(24, iv u)] [(3, pv b2), (4, pv b4), (5, pv b6), (7, pv b10), (8, pv b15), (10, iv (V.getD i.toNat 0)), (17, vv), (18, iv (V.length : Int)), (19, iv i), (25, .bool (!decide ((V.getD i.toNat 0) = u)))] (TT ∧ (CellOk (On w29) b6 (0) (.int .i64 u)) ∧ TT ∧ True) hA H ⟨tv, by exact box_cell H 5 rfl 0, tv, tv⟩ fun a w31 hA H hG => ?_
   refine hK30 _ _ ?_
   refine go_cond hA (.tmp 25) (!decide ((V.getD i.toNat 0) = u)) (fun hb32 => ?_) (fun hb32 => ?_)
   · have hhb32 := of_decide_eq_false (nT hb32)
     refine region_list ?_
     refine q_list 0 3 [(27, va)] [(3, pv b2), (4, pv b4), (5, pv b6), (7, pv b10), (8, pv b15), (17, vv), (18, iv (V.length : Int)), (19, iv i), (27, va), (28, iv (V.getD i.toNat 0))] ((0 < Try.prog.cellsOf 27) ∧ (CellOk (On w31) b10 (0 + 0) (va)) ∧ TT ∧ True) hA H ⟨by decide +kernel, by exact box_cell H 2 rfl 0, tv, tv⟩ fun a w33 hA H hG => ?_
     refine list_at 3 ?_; refine q_lit 3 29 27 1 #[(0, .tmp 28)] 3 [(0, iv (V.getD i.toNat 0))] [.int .i64 (V.getD i.toNat 0)] [(3, pv b2), (4, pv b4), (5, pv b6), (7, pv b10), (8, pv b15), (17, vv), (18, iv (V.length : Int)), (19, iv i), (27, va)] hA H fun b34 a w35 H hA hG hge_b34 => ?_
     clear hge_b34
     refine list_at 4 ?_; refine q_push 4 30 (.tmp 27) (.tmp 29) 2 0 b34 1 1 va la [(V.getD i.toNat 0)] [.int .i64 (V.getD i.toNat 0)] [(3, pv b2), (4, pv b4), (5, pv b6), (7, pv b10), (8, pv b15), (17, vv), (18, iv (V.length : Int)), (19, iv i)] hA H Try.E27 rfl rfl (by exact (RowRd.single (α := Int) rfl)) rfl (by simp only [List.length_cons, List.length_nil, List.length_append]; omega) (by decide) fun v36 a w37 H hA hG => ?_
     replace H : Fr _ _ _ [.row 3 (.slice none 0 0) ([] : List Int), .row 3 v36 (la ++ [(V.getD i.toNat 0)]), .box b10 29 [va, (.slice none 0 0)], .box b15 130 [(.map (some b13))], mapN Try.prog 3 b13 [], .box b6 3 [.int .i64 u], .box b4 29 [vv, vl], .box b2 24 [.int .i64 n, ve]] := H.drop 0
     refine q_list 5 1 [] [(3, pv b2), (4, pv b4), (5, pv b6), (7, pv b10), (8, pv b15), (17, vv), (18, iv (V.length : Int)), (19, iv i), (30, v36), (31, .pointer (some ⟨b10, 0 + 0, none⟩))] ((0 < Try.prog.cellsOf 27) ∧ True) hA H ⟨by decide +kernel, tv⟩ fun a w38 hA H hG => ?_
     refine list_at 6 ?_; refine q_store 6 27 (.tmp 31) (.tmp 30) 2 b10 (0 + 0) 29 [va, (.slice none 0 0)] [v36] [v36, (.slice none 0 0)] v36 [(3, pv b2), (4, pv b4), (5, pv b6), (7, pv b10), (8, pv b15), (17, vv), (18, iv (V.length : Int)), (19, iv i)] hA H rfl (one_cells (rd_one (H.out 1 rfl))) (Nat.le_of_ble_eq_true (by kernel_rfl)) rfl (fun v hv => by simp only [List.mem_cons, List.not_mem_nil, or_false] at hv; rcases hv with rfl; exact (rd_one (H.out 1 rfl))) fun a w39 H hA hG => ?_
     replace H : Fr _ _ _ [.row 3 (.slice none 0 0) ([] : List Int), .row 3 v36 (la ++ [(V.getD i.toNat 0)]), .box b10 29 [v36, (.slice none 0 0)], .box b15 130 [(.map (some b13))], mapN Try.prog 3 b13 [], .box b6 3 [.int .i64 u], .box b4 29 [vv, vl], .box b2 24 [.int .i64 n, ve]] := H
     refine list_end ?_
     refine hK27 _ _ ?_
     refine q_reg [] [(3, pv b2), (4, pv b4), (5, pv b6), (7, pv b10), (8, pv b15), (17, vv), (18, iv (V.length : Int)), (19, iv (i + 1))] ((InR .i64 (i + 1)) ∧ TT ∧ True) hA H ⟨⟨by omega, by omega⟩, tv, tv⟩ fun a w40 hA H hG => ?_
     replace H := Fr.order [.row 3 (.slice none 0 0) ([] : List Int), .row 3 v36 (la ++ [(V.getD i.toNat 0)]), .box b10 29 [v36, (.slice none 0 0)], .box b15 130 [(.map (some b13))], mapN Try.prog 3 b13 [], .box b6 3 [.int .i64 u], .box b4 29 [vv, vl], .box b2 24 [.int .i64 n, ve]] [] H [0, 1, 2, 3, 4, 5, 6, 7] (by show List.Perm _ (List.range 8); decide)
     replace H : Fr _ _ _ [.row 3 (.slice none 0 0) ([] : List Int), .row 3 v36 (la ++ [(V.getD i.toNat 0)]), .box b10 29 [v36, (.slice none 0 0)], .box b15 130 [(.map (some b13))], mapN Try.prog 3 b13 [], .box b6 3 [.int .i64 u], .box b4 29 [vv, vl], .box b2 24 [.int .i64 n, ve]] := H
     refine ⟨(i + 1, v36, la ++ [(V.getD i.toNat 0)]), ⟨env_sub _ hA, ⟨_, H⟩, ?_⟩, ?_⟩
     · (try dsimp only); exact ⟨by omega, by omega, by (try simp only [List.length_append, List.length_cons, List.length_nil]); omega, by rw [hi, butV_snoc h0 (by omega), if_neg hhb32]⟩
     (try dsimp only); omega
   have hhb32 := of_decide_eq_true (nF hb32)
   refine go_skip ?_
   refine hK27 _ _ ?_
   refine q_reg [] [(3, pv b2), (4, pv b4), (5, pv b6), (7, pv b10), (8, pv b15), (17, vv), (18, iv (V.length : Int)), (19, iv (i + 1))] ((InR .i64 (i + 1)) ∧ TT ∧ True) hA H ⟨⟨by omega, by omega⟩, tv, tv⟩ fun a w41 hA H hG => ?_
   replace H := Fr.order [.row 3 (.slice none 0 0) ([] : List Int), .row 3 va la, .box b10 29 [va, (.slice none 0 0)], .box b15 130 [(.map (some b13))], mapN Try.prog 3 b13 [], .box b6 3 [.int .i64 u], .box b4 29 [vv, vl], .box b2 24 [.int .i64 n, ve]] [] H [0, 1, 2, 3, 4, 5, 6, 7] (by show List.Perm _ (List.range 8); decide)
   replace H : Fr _ _ _ [.row 3 (.slice none 0 0) ([] : List Int), .row 3 va la, .box b10 29 [va, (.slice none 0 0)], .box b15 130 [(.map (some b13))], mapN Try.prog 3 b13 [], .box b6 3 [.int .i64 u], .box b4 29 [vv, vl], .box b2 24 [.int .i64 n, ve]] := H
   refine ⟨(i + 1, va, la), ⟨env_sub _ hA, ⟨_, H⟩, ?_⟩, ?_⟩
   · (try dsimp only); exact ⟨by omega, by omega, by (try simp only [List.length_append, List.length_cons, List.length_nil]); omega, by rw [hi, butV_snoc h0 (by omega), if_pos (by have := hhb32; omega), List.append_nil]⟩
   (try dsimp only); omega
 have hhb26 := of_decide_eq_false hb26
 refine go_exit 0 ?_
 refine hK18 _ _ ?_
 refine go_seq fun K42 hK42 => ?_
 refine go_seq fun K43 hK43 => ?_
 have hv9 := hi
 refine q_reg [(34, vl), (35, iv (L.length : Int))] [(3, pv b2), (5, pv b6), (7, pv b10), (8, pv b15), (34, vl), (35, iv (L.length : Int)), (36, iv 0)] ((0 < Try.prog.cellsOf 27) ∧ (CellOk (On w24) b4 (0 + 1) (vl)) ∧ (LenOk vl (L.length : Int)) ∧ TT ∧ True) hA H ⟨by decide +kernel, by exact box_cell H 6 rfl 1, by exact len_ok (H.arg hL), tv, tv⟩ fun a w44 hA H hG => ?_
 refine hK43 _ _ ?_
 refine go_block 2 ?_
 replace H := Fr.order [.row 3 (.slice none 0 0) ([] : List Int), .row 3 va la, .box b10 29 [va, (.slice none 0 0)], .box b15 130 [(.map (some b13))], mapN Try.prog 3 b13 [], .box b6 3 [.int .i64 u], .box b4 29 [vv, vl], .box b2 24 [.int .i64 n, ve]] [] H [4, 0, 1, 2, 3, 5, 6, 7] (by show List.Perm _ (List.range 8); decide)
 replace H : Fr _ _ _ [mapN Try.prog 3 b13 [], .row 3 (.slice none 0 0) ([] : List Int), .row 3 va la, .box b10 29 [va, (.slice none 0 0)], .box b15 130 [(.map (some b13))], .box b6 3 [.int .i64 u], .box b4 29 [vv, vl], .box b2 24 [.int .i64 n, ve]] := H
 refine go_loop_ (Int × List (Int × Int) × Value × List Int) (fun x_ a W => (fun (i : Int) (m : List (Int × Int)) (vb : Value) (lb : List Int) => EnvOk 92 a (keepEnv [(3, pv b2), (5, pv b6), (7, pv b10), (8, pv b15), (34, vl), (35, iv (L.length : Int)), (36, iv i)]) ∧ (∃ S, Fr o W S [mapN Try.prog 3 b13 m, .row 3 vb lb, .row 3 va la, .box b10 29 [va, vb], .box b15 130 [(.map (some b13))], .box b6 3 [.int .i64 u], .box b4 29 [vv, vl], .box b2 24 [.int .i64 n, ve]]) ∧ 0 ≤ i ∧ i ≤ (L.length : Int) ∧ (m.length : Int) ≤ i ∧ (lb.length : Int) ≤ i ∧ (∀ v, lastAt m v = cntO (othE E u (L.take i.toNat)) v) ∧ lb = leftE E u (L.take i.toNat)) x_.1 x_.2.1 x_.2.2.1 x_.2.2.2) (fun x_ => (fun (i : Int) (m : List (Int × Int)) (vb : Value) (lb : List Int) => ((L.length : Int) - i).toNat) x_.1 x_.2.1 x_.2.2.1 x_.2.2.2) (0, [], .slice none 0 0, []) ?_ (fun x_ a w46 hI => ?_)
 · (try dsimp only); exact ⟨env_sub _ hA, ⟨_, H⟩, by omega, by omega, by simp, by simp, fun v => by simp [lastAt, cntO, othE], rfl⟩
 obtain ⟨i, m, vb, lb⟩ := x_
 obtain ⟨hA, ⟨S, H⟩, h0, h0b, h1, h2, hm, hi⟩ := hI
 try dsimp only at h0 h0b h1 h2 hm hi
 replace H : Fr _ _ _ [mapN Try.prog 3 b13 m, .row 3 vb lb, .row 3 va la, .box b10 29 [va, vb], .box b15 130 [(.map (some b13))], .box b6 3 [.int .i64 u], .box b4 29 [vv, vl], .box b2 24 [.int .i64 n, ve]] := H
 refine go_seq fun K47 hK47 => ?_
 refine q_reg [] [(3, pv b2), (5, pv b6), (7, pv b10), (8, pv b15), (34, vl), (35, iv (L.length : Int)), (36, iv i), (37, .bool (decide (i < (L.length : Int))))] (TT ∧ True) hA H ⟨tv, tv⟩ fun a w48 hA H hG => ?_
 refine hK47 _ _ ?_
 refine go_seq fun K49 hK49 => ?_
 refine go_cond hA (.tmp 37) (decide (i < (L.length : Int))) (fun hb50 => ?_) (fun hb50 => ?_)
 · have hhb50 := of_decide_eq_true hb50
   refine go_skip ?_
   refine hK49 _ _ ?_
   refine go_seq fun K51 hK51 => ?_
   refine go_block 3 ?_
   refine go_seq fun K52 hK52 => ?_
   refine q_reg [(39, iv (L.getD i.toNat 0))] [(3, pv b2), (5, pv b6), (7, pv b10), (8, pv b15), (12, iv (L.getD i.toNat 0)), (34, vl), (35, iv (L.length : Int)), (36, iv i)] (((Try.prog.info? 3).isSome = true ∧ IdxOk vl i) ∧ (CellOk (On w48) (hdB vl) (hdO vl + i.toNat * 1) (.int .i64 (L.getD i.toNat 0))) ∧ TT ∧ True) hA H ⟨⟨by kernel_rfl, by exact idx_ok (H.arg hL) (by omega) (by omega)⟩, by exact cell_flat (i := i) (H.arg hL) (by omega) (by omega) 0 0, tv, tv⟩ fun a w53 hA H hG => ?_
   refine hK52 _ _ ?_
   refine go_seq fun K54 hK54 => ?_
   refine q_reg [(40, iv u)] [(3, pv b2), (5, pv b6), (7, pv b10), (8, pv b15), (12, iv (L.getD i.toNat 0)), (34, vl), (35, iv (L.length : Int)), (36, iv i), (40, iv u)] ((CellOk (On w53) b6 (0) (.int .i64 u)) ∧ True) hA H ⟨by exact box_cell H 5 rfl 0, tv⟩ fun a w55 hA H hG => ?_
   refine hK54 _ _ ?_
   refine go_block 4 ?_
   refine go_seq fun K56 hK56 => ?_
   have hx9 := hin i.toNat (by omega)
   have hy9 := hw9 (L.getD i.toNat 0).toNat (by omega)
   have hc1 := oth_bd h0 hm (E.getD (L.getD i.toNat 0).toNat (0, 0)).1; have hc2 := oth_bd h0 hm (E.getD (L.getD i.toNat 0).toNat (0, 0)).2
   refine q_reg [(49, ve), (53, iv ((E.getD (L.getD i.toNat 0).toNat (0, 0)).1))] [(3, pv b2), (5, pv b6), (7, pv b10), (8, pv b15), (12, iv (L.getD i.toNat 0)), (34, vl), (35, iv (L.length : Int)), (36, iv i), (40, iv u), (47, .bool (decide (u = (E.getD (L.getD i.toNat 0).toNat (0, 0)).1)))] ((0 < Try.prog.cellsOf 22) ∧ (CellOk (On w55) b2 (0 + 1) (ve)) ∧ TT ∧ ((Try.prog.info? 99).isSome = true ∧ IdxOk ve (L.getD i.toNat 0)) ∧ (0 < Try.prog.cellsOf 3) ∧ (CellOk (On w55) (hdB ve) (hdO ve + (L.getD i.toNat 0).toNat * 2 + 0) (.int .i64 ((E.getD (L.getD i.toNat 0).toNat (0, 0)).1))) ∧ TT ∧ TT ∧ True) hA H ⟨by decide +kernel, by exact box_cell H 7 rfl 1, tv, ⟨by kernel_rfl, by exact idx_ok (H.arg hE) (by omega) (by omega)⟩, by decide +kernel, by exact cell_flat (i := (L.getD i.toNat 0)) (H.arg hE) (by omega) (by omega) (0, 0) 0, tv, tv, tv⟩ fun a w57 hA H hG => ?_
   refine hK56 _ _ ?_
   refine go_cond hA (.tmp 47) (decide (u = (E.getD (L.getD i.toNat 0).toNat (0, 0)).1)) (fun hb58 => ?_) (fun hb58 => ?_)
   · have hhb58 := of_decide_eq_true hb58
     have H0 := H
     have hM0 := H0.keeps none (.inl rfl)
     refine region_mix (But w57 none) [0, 1, 2, 3, 4, 5, 6, 7, 8] 10 ?_
     replace H := H.drawn; have hD := But.drew w57 none
     generalize ({ w57 with drawn := w57.drawn + 1 } : World) = w59 at H hD ⊢
     refine m_take (n := 3) [0, 1, 2, 3, 4, 5, 6] #[true, true, true, true, true, true, true, false, false, false] [(55, (.map (some b13))), (57, ve), (61, iv ((E.getD (L.getD i.toNat 0).toNat (0, 0)).2))] [(3, pv b2), (5, pv b6), (7, pv b10), (8, pv b15), (34, vl), (35, iv (L.length : Int)), (36, iv i), (55, (.map (some b13))), (61, iv ((E.getD (L.getD i.toNat 0).toNat (0, 0)).2))] ((CellOk (But w57 none) b15 (0) ((.map (some b13)))) ∧ (0 < Try.prog.cellsOf 22) ∧ (CellOk (But w57 none) b2 (0 + 1) (ve)) ∧ TT ∧ ((Try.prog.info? 99).isSome = true ∧ IdxOk ve (L.getD i.toNat 0)) ∧ (0 < Try.prog.cellsOf 3) ∧ (CellOk (But w57 none) (hdB ve) (hdO ve + (L.getD i.toNat 0).toNat * 2 + 1) (.int .i64 ((E.getD (L.getD i.toNat 0).toNat (0, 0)).2))) ∧ True) hA hD ⟨by exact box_cellC (box_atC H0 none 4 rfl (fun e => by cases e)) 0, by decide +kernel, by exact box_cellC (box_atC H0 none 7 rfl (fun e => by cases e)) 1, tv, ⟨by kernel_rfl, by exact idx_ok (H0.argT hE) (by omega) (by omega)⟩, by decide +kernel, by exact cell_flatC hM0 (i := (L.getD i.toNat 0)) (H0.argT hE) (by omega) (by omega) (0, 0) 1, tv⟩ fun a hA => ?_
     refine m_one 7 ?_; refine q_one 7 [(62, iv ((lastAt m ((E.getD (L.getD i.toNat 0).toNat (0, 0)).2)).getD 0))] [(3, pv b2), (5, pv b6), (7, pv b10), (8, pv b15), (34, vl), (35, iv (L.length : Int)), (36, iv i), (55, (.map (some b13))), (61, iv ((E.getD (L.getD i.toNat 0).toNat (0, 0)).2)), (62, iv ((lastAt m ((E.getD (L.getD i.toNat 0).toNat (0, 0)).2)).getD 0))] ((∀ w', On w59 w' → (Instr.lookup 130 (.map (some b13)) (.int .i64 ((E.getD (L.getD i.toNat 0).toNat (0, 0)).2)) false).run Try.prog w' = .ok (.int .i64 ((lastAt m ((E.getD (L.getD i.toNat 0).toNat (0, 0)).2)).getD 0)) w') ∧ True) hA H ⟨by exact mapN_look H 0 rfl (obj_on H 0 rfl) ⟨by omega, by omega⟩ Try.underlying130 Try.underlying3 (fun w => by kernel_rfl), tv⟩ fun a w60 H hA hG => ?_
     replace hD := hD.below hG
     refine ⟨fun _ => hD, ?_⟩
     refine m_take (n := 1) [8] #[true, true, true, true, true, true, true, true, true, false] [] [(3, pv b2), (5, pv b6), (7, pv b10), (8, pv b15), (34, vl), (35, iv (L.length : Int)), (36, iv i), (55, (.map (some b13))), (61, iv ((E.getD (L.getD i.toNat 0).toNat (0, 0)).2)), (63, iv (((lastAt m ((E.getD (L.getD i.toNat 0).toNat (0, 0)).2)).getD 0) + 1))] ((InR .i64 (((lastAt m ((E.getD (L.getD i.toNat 0).toNat (0, 0)).2)).getD 0) + 1)) ∧ True) hA hD ⟨⟨by omega, by omega⟩, tv⟩ fun a hA => ?_
     refine m_one 9 ?_; refine q_mapUpdateN 9 130 (.tmp 55) (.tmp 61) (.tmp 63) 0 b13 m ((E.getD (L.getD i.toNat 0).toNat (0, 0)).2) (((lastAt m ((E.getD (L.getD i.toNat 0).toNat (0, 0)).2)).getD 0) + 1) [(3, pv b2), (5, pv b6), (7, pv b10), (8, pv b15), (34, vl), (35, iv (L.length : Int)), (36, iv i)] hA H rfl ⟨by omega, by omega⟩ (by (try simp only [List.length_append, List.length_cons, List.length_nil]); omega) Try.underlying130 Try.underlying3 fun a w61 H hA hG => ?_
     replace H : Fr _ _ _ [mapN Try.prog 3 b13 (m ++ [((E.getD (L.getD i.toNat 0).toNat (0, 0)).2, ((lastAt m ((E.getD (L.getD i.toNat 0).toNat (0, 0)).2)).getD 0) + 1)]), .row 3 vb lb, .row 3 va la, .box b10 29 [va, vb], .box b15 130 [(.map (some b13))], .box b6 3 [.int .i64 u], .box b4 29 [vv, vl], .box b2 24 [.int .i64 n, ve]] := H
     refine ⟨fun h => absurd h (by decide), ?_⟩
     refine m_end ?_
     refine hK51 _ _ ?_
     refine q_reg [] [(3, pv b2), (5, pv b6), (7, pv b10), (8, pv b15), (34, vl), (35, iv (L.length : Int)), (36, iv (i + 1))] ((InR .i64 (i + 1)) ∧ TT ∧ True) hA H ⟨⟨by omega, by omega⟩, tv, tv⟩ fun a w62 hA H hG => ?_
     refine ⟨(i + 1, m ++ [((E.getD (L.getD i.toNat 0).toNat (0, 0)).2, ((lastAt m ((E.getD (L.getD i.toNat 0).toNat (0, 0)).2)).getD 0) + 1)], vb, lb), ⟨env_sub _ hA, ⟨_, H⟩, ?_⟩, ?_⟩
     · (try dsimp only); exact ⟨by omega, by omega, by (try simp only [List.length_append, List.length_cons, List.length_nil]); omega, by (try simp only [List.length_append, List.length_cons, List.length_nil]); omega, fun v => by rw [othE_snoc h0 (by omega), if_pos hhb58]; exact cnt_put hm _ v, by rw [hi, leftE_snoc h0 (by omega), if_pos hhb58, List.append_nil]⟩
     (try dsimp only); omega
   have hhb58 := of_decide_eq_false hb58
   refine go_seq fun K63 hK63 => ?_
   refine q_reg [(66, ve), (70, iv ((E.getD (L.getD i.toNat 0).toNat (0, 0)).2))] [(3, pv b2), (5, pv b6), (7, pv b10), (8, pv b15), (12, iv (L.getD i.toNat 0)), (34, vl), (35, iv (L.length : Int)), (36, iv i), (64, .bool (decide (u = (E.getD (L.getD i.toNat 0).toNat (0, 0)).2)))] ((0 < Try.prog.cellsOf 22) ∧ (CellOk (On w57) b2 (0 + 1) (ve)) ∧ TT ∧ ((Try.prog.info? 99).isSome = true ∧ IdxOk ve (L.getD i.toNat 0)) ∧ (0 < Try.prog.cellsOf 3) ∧ (CellOk (On w57) (hdB ve) (hdO ve + (L.getD i.toNat 0).toNat * 2 + 1) (.int .i64 ((E.getD (L.getD i.toNat 0).toNat (0, 0)).2))) ∧ TT ∧ TT ∧ True) hA H ⟨by decide +kernel, by exact box_cell H 7 rfl 1, tv, ⟨by kernel_rfl, by exact idx_ok (H.arg hE) (by omega) (by omega)⟩, by decide +kernel, by exact cell_flat (i := (L.getD i.toNat 0)) (H.arg hE) (by omega) (by omega) (0, 0) 1, tv, tv, tv⟩ fun a w64 hA H hG => ?_
   refine hK63 _ _ ?_
   refine go_cond hA (.tmp 64) (decide (u = (E.getD (L.getD i.toNat 0).toNat (0, 0)).2)) (fun hb65 => ?_) (fun hb65 => ?_)
   · have hhb65 := of_decide_eq_true hb65
     have H0 := H
     have hM0 := H0.keeps none (.inl rfl)
     refine region_mix (But w64 none) [0, 1, 2, 3, 4, 5, 6, 7, 8] 10 ?_
     replace H := H.drawn; have hD := But.drew w64 none
     generalize ({ w64 with drawn := w64.drawn + 1 } : World) = w66 at H hD ⊢
     refine m_take (n := 3) [0, 1, 2, 3, 4, 5, 6] #[true, true, true, true, true, true, true, false, false, false] [(72, (.map (some b13))), (74, ve), (78, iv ((E.getD (L.getD i.toNat 0).toNat (0, 0)).1))] [(3, pv b2), (5, pv b6), (7, pv b10), (8, pv b15), (34, vl), (35, iv (L.length : Int)), (36, iv i), (72, (.map (some b13))), (78, iv ((E.getD (L.getD i.toNat 0).toNat (0, 0)).1))] ((CellOk (But w64 none) b15 (0) ((.map (some b13)))) ∧ (0 < Try.prog.cellsOf 22) ∧ (CellOk (But w64 none) b2 (0 + 1) (ve)) ∧ TT ∧ ((Try.prog.info? 99).isSome = true ∧ IdxOk ve (L.getD i.toNat 0)) ∧ (0 < Try.prog.cellsOf 3) ∧ (CellOk (But w64 none) (hdB ve) (hdO ve + (L.getD i.toNat 0).toNat * 2 + 0) (.int .i64 ((E.getD (L.getD i.toNat 0).toNat (0, 0)).1))) ∧ True) hA hD ⟨by exact box_cellC (box_atC H0 none 4 rfl (fun e => by cases e)) 0, by decide +kernel, by exact box_cellC (box_atC H0 none 7 rfl (fun e => by cases e)) 1, tv, ⟨by kernel_rfl, by exact idx_ok (H0.argT hE) (by omega) (by omega)⟩, by decide +kernel, by exact cell_flatC hM0 (i := (L.getD i.toNat 0)) (H0.argT hE) (by omega) (by omega) (0, 0) 0, tv⟩ fun a hA => ?_
     refine m_one 7 ?_; refine q_one 7 [(79, iv ((lastAt m ((E.getD (L.getD i.toNat 0).toNat (0, 0)).1)).getD 0))] [(3, pv b2), (5, pv b6), (7, pv b10), (8, pv b15), (34, vl), (35, iv (L.length : Int)), (36, iv i), (72, (.map (some b13))), (78, iv ((E.getD (L.getD i.toNat 0).toNat (0, 0)).1)), (79, iv ((lastAt m ((E.getD (L.getD i.toNat 0).toNat (0, 0)).1)).getD 0))] ((∀ w', On w66 w' → (Instr.lookup 130 (.map (some b13)) (.int .i64 ((E.getD (L.getD i.toNat 0).toNat (0, 0)).1)) false).run Try.prog w' = .ok (.int .i64 ((lastAt m ((E.getD (L.getD i.toNat 0).toNat (0, 0)).1)).getD 0)) w') ∧ True) hA H ⟨by exact mapN_look H 0 rfl (obj_on H 0 rfl) ⟨by omega, by omega⟩ Try.underlying130 Try.underlying3 (fun w => by kernel_rfl), tv⟩ fun a w67 H hA hG => ?_
     replace hD := hD.below hG
     refine ⟨fun _ => hD, ?_⟩
     refine m_take (n := 1) [8] #[true, true, true, true, true, true, true, true, true, false] [] [(3, pv b2), (5, pv b6), (7, pv b10), (8, pv b15), (34, vl), (35, iv (L.length : Int)), (36, iv i), (72, (.map (some b13))), (78, iv ((E.getD (L.getD i.toNat 0).toNat (0, 0)).1)), (80, iv (((lastAt m ((E.getD (L.getD i.toNat 0).toNat (0, 0)).1)).getD 0) + 1))] ((InR .i64 (((lastAt m ((E.getD (L.getD i.toNat 0).toNat (0, 0)).1)).getD 0) + 1)) ∧ True) hA hD ⟨⟨by omega, by omega⟩, tv⟩ fun a hA => ?_
     refine m_one 9 ?_; refine q_mapUpdateN 9 130 (.tmp 72) (.tmp 78) (.tmp 80) 0 b13 m ((E.getD (L.getD i.toNat 0).toNat (0, 0)).1) (((lastAt m ((E.getD (L.getD i.toNat 0).toNat (0, 0)).1)).getD 0) + 1) [(3, pv b2), (5, pv b6), (7, pv b10), (8, pv b15), (34, vl), (35, iv (L.length : Int)), (36, iv i)] hA H rfl ⟨by omega, by omega⟩ (by (try simp only [List.length_append, List.length_cons, List.length_nil]); omega) Try.underlying130 Try.underlying3 fun a w68 H hA hG => ?_
     replace H : Fr _ _ _ [mapN Try.prog 3 b13 (m ++ [((E.getD (L.getD i.toNat 0).toNat (0, 0)).1, ((lastAt m ((E.getD (L.getD i.toNat 0).toNat (0, 0)).1)).getD 0) + 1)]), .row 3 vb lb, .row 3 va la, .box b10 29 [va, vb], .box b15 130 [(.map (some b13))], .box b6 3 [.int .i64 u], .box b4 29 [vv, vl], .box b2 24 [.int .i64 n, ve]] := H
     refine ⟨fun h => absurd h (by decide), ?_⟩
     refine m_end ?_
     refine hK51 _ _ ?_
     refine q_reg [] [(3, pv b2), (5, pv b6), (7, pv b10), (8, pv b15), (34, vl), (35, iv (L.length : Int)), (36, iv (i + 1))] ((InR .i64 (i + 1)) ∧ TT ∧ True) hA H ⟨⟨by omega, by omega⟩, tv, tv⟩ fun a w69 hA H hG => ?_
     refine ⟨(i + 1, m ++ [((E.getD (L.getD i.toNat 0).toNat (0, 0)).1, ((lastAt m ((E.getD (L.getD i.toNat 0).toNat (0, 0)).1)).getD 0) + 1)], vb, lb), ⟨env_sub _ hA, ⟨_, H⟩, ?_⟩, ?_⟩
     · (try dsimp only); exact ⟨by omega, by omega, by (try simp only [List.length_append, List.length_cons, List.length_nil]); omega, by (try simp only [List.length_append, List.length_cons, List.length_nil]); omega, fun v => by rw [othE_snoc h0 (by omega), if_neg hhb58, if_pos hhb65]; exact cnt_put hm _ v, by rw [hi, leftE_snoc h0 (by omega), if_neg hhb58, if_pos hhb65, List.append_nil]⟩
     (try dsimp only); omega
   have hhb65 := of_decide_eq_false hb65
   refine region_list ?_
   refine q_list 0 3 [(42, vb)] [(3, pv b2), (5, pv b6), (7, pv b10), (8, pv b15), (34, vl), (35, iv (L.length : Int)), (36, iv i), (42, vb), (43, iv (L.getD i.toNat 0))] ((0 < Try.prog.cellsOf 27) ∧ (CellOk (On w64) b10 (0 + 1) (vb)) ∧ TT ∧ True) hA H ⟨by decide +kernel, by exact box_cell H 3 rfl 1, tv, tv⟩ fun a w70 hA H hG => ?_
   refine list_at 3 ?_; refine q_lit 3 44 27 1 #[(0, .tmp 43)] 3 [(0, iv (L.getD i.toNat 0))] [.int .i64 (L.getD i.toNat 0)] [(3, pv b2), (5, pv b6), (7, pv b10), (8, pv b15), (34, vl), (35, iv (L.length : Int)), (36, iv i), (42, vb)] hA H fun b71 a w72 H hA hG hge_b71 => ?_
   clear hge_b71
   refine list_at 4 ?_; refine q_push 4 45 (.tmp 42) (.tmp 44) 2 0 b71 1 1 vb lb [(L.getD i.toNat 0)] [.int .i64 (L.getD i.toNat 0)] [(3, pv b2), (5, pv b6), (7, pv b10), (8, pv b15), (34, vl), (35, iv (L.length : Int)), (36, iv i)] hA H Try.E27 rfl rfl (by exact (RowRd.single (α := Int) rfl)) rfl (by simp only [List.length_cons, List.length_nil, List.length_append]; omega) (by decide) fun v73 a w74 H hA hG => ?_
   replace H : Fr _ _ _ [mapN Try.prog 3 b13 m, .row 3 v73 (lb ++ [(L.getD i.toNat 0)]), .row 3 va la, .box b10 29 [va, vb], .box b15 130 [(.map (some b13))], .box b6 3 [.int .i64 u], .box b4 29 [vv, vl], .box b2 24 [.int .i64 n, ve]] := H.drop 0
   refine q_list 5 1 [] [(3, pv b2), (5, pv b6), (7, pv b10), (8, pv b15), (34, vl), (35, iv (L.length : Int)), (36, iv i), (45, v73), (46, .pointer (some ⟨b10, 0 + 1, none⟩))] ((0 < Try.prog.cellsOf 27) ∧ True) hA H ⟨by decide +kernel, tv⟩ fun a w75 hA H hG => ?_
   refine list_at 6 ?_; refine q_store 6 27 (.tmp 46) (.tmp 45) 3 b10 (0 + 1) 29 [va, vb] [v73] [va, v73] v73 [(3, pv b2), (5, pv b6), (7, pv b10), (8, pv b15), (34, vl), (35, iv (L.length : Int)), (36, iv i)] hA H rfl (one_cells (rd_one (H.out 1 rfl))) (Nat.le_of_ble_eq_true (by kernel_rfl)) rfl (fun v hv => by simp only [List.mem_cons, List.not_mem_nil, or_false] at hv; rcases hv with rfl; exact (rd_one (H.out 1 rfl))) fun a w76 H hA hG => ?_
   replace H : Fr _ _ _ [mapN Try.prog 3 b13 m, .row 3 v73 (lb ++ [(L.getD i.toNat 0)]), .row 3 va la, .box b10 29 [va, v73], .box b15 130 [(.map (some b13))], .box b6 3 [.int .i64 u], .box b4 29 [vv, vl], .box b2 24 [.int .i64 n, ve]] := H
   refine list_end ?_
   refine hK51 _ _ ?_
   refine q_reg [] [(3, pv b2), (5, pv b6), (7, pv b10), (8, pv b15), (34, vl), (35, iv (L.length : Int)), (36, iv (i + 1))] ((InR .i64 (i + 1)) ∧ TT ∧ True) hA H ⟨⟨by omega, by omega⟩, tv, tv⟩ fun a w77 hA H hG => ?_
   refine ⟨(i + 1, m, v73, lb ++ [(L.getD i.toNat 0)]), ⟨env_sub _ hA, ⟨_, H⟩, ?_⟩, ?_⟩
   · (try dsimp only); exact ⟨by omega, by omega, by (try simp only [List.length_append, List.length_cons, List.length_nil]); omega, by (try simp only [List.length_append, List.length_cons, List.length_nil]); omega, fun v => by rw [othE_snoc h0 (by omega), if_neg hhb58, if_neg hhb65, List.append_nil]; exact hm v, by rw [hi, leftE_snoc h0 (by omega), if_neg hhb58, if_neg hhb65]⟩
   (try dsimp only); omega
 have hhb50 := of_decide_eq_false hb50
 refine go_exit 2 ?_
 refine hK42 _ _ ?_
 refine go_seq fun K78 hK78 => ?_
 have hm9 := hm; rw [List.take_of_length_le (by omega)] at hm9 hi
 have hce := cutsE_len n E (butV u V) (leftE E u L)
 have hbv := butV_len u V
 rw [List.take_of_length_le (by omega)] at hv9; rw [hi, hv9] at H
 replace H : Fr _ _ _ [mapN Try.prog 3 b13 m, .row 3 vb (leftE E u L), .row 3 va (butV u V), .box b10 29 [va, vb], .box b15 130 [(.map (some b13))], .box b6 3 [.int .i64 u], .box b4 29 [vv, vl], .box b2 24 [.int .i64 n, ve]] := H
 refine region_list ?_
 refine q_list 0 2 [(83, .agg #[.int .i64 n, ve]), (84, .agg #[va, vb])] [(5, pv b6), (7, pv b10), (8, pv b15), (83, .agg #[.int .i64 n, ve]), (84, .agg #[va, vb])] (((Try.prog.info? 24).isSome = true ∧ RowOk (On w48) b2 (0) (Try.prog.cellsOf 24) #[.int .i64 n, ve]) ∧ ((Try.prog.info? 29).isSome = true ∧ RowOk (On w48) b10 (0) (Try.prog.cellsOf 29) #[va, vb]) ∧ True) hA H ⟨⟨by kernel_rfl, by exact box_row H 7 rfl 0 2⟩, ⟨by kernel_rfl, by exact box_row H 3 rfl 0 2⟩, tv⟩ fun a w79 hA H hG => ?_
 refine list_at 2 ?_; refine q_call 2 85 48 #[.tmp 83, .tmp 84] #[24, 29] [.agg #[.int .i64 n, ve], .agg #[va, vb]] (fun S v_ w' => ∃ p_, v_ = .tuple #[p_, .int .i64 (partE n E (butV u V) (leftE E u L))] ∧ Rd S w' p_ ((cutsE n E (butV u V) (leftE E u L)))) [(5, pv b6), (7, pv b10), (8, pv b15)] hA H (by exact cuts_any n ve E va vb (butV u V) (leftE E u L) H.at (by omega) ((H.arg hE)) ((H.out 2 rfl)) ((H.out 1 rfl))) fun v80 a w81 S hR82 H hA hG => ?_
 obtain ⟨v80p, rfl, hR82p⟩ := hR82
 replace H := H.ro hR82p
 replace H : Fr _ _ _ [.ro v80p (cutsE n E (butV u V) (leftE E u L)), mapN Try.prog 3 b13 m, .row 3 vb (leftE E u L), .row 3 va (butV u V), .box b10 29 [va, vb], .box b15 130 [(.map (some b13))], .box b6 3 [.int .i64 u], .box b4 29 [vv, vl], .box b2 24 [.int .i64 n, ve]] := H
 refine q_list 3 3 [] [(5, pv b6), (7, pv b10), (8, pv b15), (86, v80p), (87, iv (partE n E (butV u V) (leftE E u L)))] (TT ∧ TT ∧ TT ∧ True) hA H ⟨tv, tv, tv, tv⟩ fun a w84 hA H hG => ?_
 refine list_at 6 ?_; refine q_alloc 6 13 27 [(.slice none 0 0)] [(5, pv b6), (7, pv b10), (8, pv b15), (86, v80p), (87, iv (partE n E (butV u V) (leftE E u L)))] hA H fun b85 a w86 H hA hG hge_b85 => ?_
 clear hge_b85
 refine list_at 7 ?_; refine q_store 7 27 (.tmp 13) (.tmp 86) 0 b85 (0) 27 [(.slice none 0 0)] [v80p] [v80p] v80p [(5, pv b6), (7, pv b10), (8, pv b15), (13, pv b85), (87, iv (partE n E (butV u V) (leftE E u L)))] hA H rfl (one_cells (rd_one (H.get 1 rfl))) (Nat.le_of_ble_eq_true (by kernel_rfl)) rfl (fun v hv => by simp only [List.mem_cons, List.not_mem_nil, or_false] at hv; rcases hv with rfl; exact (rd_one (H.get 1 rfl))) fun a w87 H hA hG => ?_
 replace H : Fr _ _ _ [.box b85 27 [v80p], .ro v80p (cutsE n E (butV u V) (leftE E u L)), mapN Try.prog 3 b13 m, .row 3 vb (leftE E u L), .row 3 va (butV u V), .box b10 29 [va, vb], .box b15 130 [(.map (some b13))], .box b6 3 [.int .i64 u], .box b4 29 [vv, vl], .box b2 24 [.int .i64 n, ve]] := H
 refine q_list 8 1 [] [(5, pv b6), (7, pv b10), (8, pv b15), (13, pv b85)] (TT ∧ True) hA H ⟨tv, tv⟩ fun a w88 hA H hG => ?_
 refine list_end ?_
 refine hK78 _ _ ?_
 refine go_seq fun K89 hK89 => ?_
 refine region_list ?_
 refine q_list 0 2 [(89, va)] [(5, pv b6), (8, pv b15), (13, pv b85), (89, va)] ((0 < Try.prog.cellsOf 27) ∧ (CellOk (On w88) b10 (0 + 0) (va)) ∧ True) hA H ⟨by decide +kernel, by exact box_cell H 5 rfl 0, tv⟩ fun a w90 hA H hG => ?_
 refine list_at 2 ?_; refine q_funcN 2 90 114 [.tmp 5, .tmp 8, .tmp 13] [.pointer (some ⟨b6, 0, none⟩), .pointer (some ⟨b15, 0, none⟩), .pointer (some ⟨b85, 0, none⟩)] [(89, va)] hA fun a hA => ?_
 replace H := Fr.order [.box b85 27 [v80p], .ro v80p (cutsE n E (butV u V) (leftE E u L)), mapN Try.prog 3 b13 m, .row 3 vb (leftE E u L), .row 3 va (butV u V), .box b10 29 [va, vb], .box b15 130 [(.map (some b13))], .box b6 3 [.int .i64 u], .box b4 29 [vv, vl], .box b2 24 [.int .i64 n, ve]] [] H [4, 7, 6, 2, 0, 1, 3, 5, 8, 9] (by show List.Perm _ (List.range 10); decide)
 replace H : Fr _ _ _ [.row 3 va (butV u V), .box b6 3 [.int .i64 u], .box b15 130 [(.map (some b13))], mapN Try.prog 3 b13 m, .box b85 27 [v80p], .ro v80p (cutsE n E (butV u V) (leftE E u L)), .row 3 vb (leftE E u L), .box b10 29 [va, vb], .box b4 29 [vv, vl], .box b2 24 [.int .i64 n, ve]] := H
 refine list_at 3 ?_; refine q_any 3 91 113 #[.tmp 89, .tmp 90] #[27, 126] [va, .func (.func 114) #[] #[.pointer (some ⟨b6, 0, none⟩), .pointer (some ⟨b15, 0, none⟩), .pointer (some ⟨b85, 0, none⟩)]] _ [] hA (delrow_any 114 [.pointer (some ⟨b6, 0, none⟩), .pointer (some ⟨b15, 0, none⟩), .pointer (some ⟨b85, 0, none⟩)] (fun x => besideB n E V L u x) va (butV u V) o _ [.box b6 3 [.int .i64 u], .box b15 130 [(.map (some b13))], mapN Try.prog 3 b13 m, .box b85 27 [v80p], .ro v80p (cutsE n E (butV u V) (leftE E u L)), .row 3 vb (leftE E u L), .box b10 29 [va, vb], .box b4 29 [vv, vl], .box b2 24 [.int .i64 n, ve]] _ H (by omega) (fun x hx => hwv x (List.mem_filter.1 hx).1) callable_of (fun x w' S' l' hx H' => (bclos_any b6 b15 b13 b85 u m v80p (cutsE n E (butV u V) (leftE E u L)) x o S' (.row 3 va l' :: [.row 3 vb (leftE E u L), .box b10 29 [va, vb], .box b4 29 [vv, vl], .box b2 24 [.int .i64 n, ve]]) w' (H'.sink 1 5) hx (by omega)).mono fun e w2 ⟨q, he, hq, S2, H2⟩ => ⟨q, he, by rw [hq, beside_ok hm9], S2, H2.sink 5 1⟩)) fun v91 a w92 hR93 hA => ?_
 obtain ⟨S, H⟩ := hR93
 replace H : Fr _ _ _ [.row 3 v91 ((butV u V).filter (fun x => !(fun x => besideB n E V L u x) x)), .box b6 3 [.int .i64 u], .box b15 130 [(.map (some b13))], mapN Try.prog 3 b13 m, .box b85 27 [v80p], .ro v80p (cutsE n E (butV u V) (leftE E u L)), .row 3 vb (leftE E u L), .box b10 29 [va, vb], .box b4 29 [vv, vl], .box b2 24 [.int .i64 n, ve]] := H
 refine q_list 4 1 [] [(6, v91)] (TT ∧ True) hA H ⟨tv, tv⟩ fun a w94 hA H hG => ?_
 refine list_end ?_
 refine hK89 _ _ ?_
 refine go_ret_ ?_
 refine ret_one 6 v91 hA ?_
 exact ⟨_, rfl, H.give 0 rfl, H.below⟩
theorem drop_roundD {α : Type} {l : List α} {i : Int} (d : α) (h0 : 0 ≤ i) (h : i < (l.length : Int)) : l.drop i.toNat = l.getD i.toNat d :: l.drop (i + 1).toNat := by
 have hi : i.toNat < l.length := by omega
 rw [List.drop_eq_getElem_cons hi, List.getD_eq_getElem?_getD, List.getElem?_eq_getElem hi, show (i + 1).toNat = i.toNat + 1 by omega]
 rfl
def willB (l : List Lk) (k : Int) : Bool := decide (2 ≤ k) && decide (2 ≤ (l.length : Int) - k)
def besK (l : List Lk) (u : Int) : List Int := besideE (wholeR l).1.1.1 (wholeR l).1.1.2 (wholeR l).1.2.1 (wholeR l).1.2.2 u
def candC (l : List Lk) (u v : Int) (cs : List (List Int)) : List (Int × Int × List Int) := (cs.filter fun c => willB l (c.length : Int)).map fun c => (u, v, c)
def candV (l : List Lk) (u : Int) (vs : List Int) : List (Int × Int × List Int) := vs.flatMap fun v => candC l u v (classesL l u v)
def candU (l : List Lk) (us : List Int) : List (Int × Int × List Int) := us.flatMap fun u => candV l u (besK l u)
def firstK (l : List Lk) : Option (Int × Int × List Int) := if rightK l = true ∧ ringsB l = false then (candU l (wholeR l).1.2.1).head? else none
def firstD (l : List Lk) : Int × Int × List Int := (firstK l).getD (0, (0, []))
theorem candC_yes {l : List Lk} {u v : Int} {c : List Int} {cs : List (List Int)} (h : willB l (c.length : Int) = true) : candC l u v (c :: cs) = (u, v, c) :: candC l u v cs := by
 unfold candC; rw [List.filter_cons, if_pos h]; rfl
theorem candC_no {l : List Lk} {u v : Int} {c : List Int} {cs : List (List Int)} (h : willB l (c.length : Int) = false) : candC l u v (c :: cs) = candC l u v cs := by
 unfold candC; rw [List.filter_cons, if_neg (by rw [h]; decide)]
theorem candV_cons {l : List Lk} {u v : Int} {vs : List Int} : candV l u (v :: vs) = candC l u v (classesL l u v) ++ candV l u vs := by unfold candV; rw [List.flatMap_cons]
theorem candU_cons {l : List Lk} {u : Int} {us : List Int} : candU l (u :: us) = candV l u (besK l u) ++ candU l us := by unfold candU; rw [List.flatMap_cons]
theorem first_start {l : List Lk} (h1 : rightK l = true) (h2 : ringsB l = false) : (candU l ((wholeR l).1.2.1.drop (0 : Int).toNat)).head? = firstK l := by unfold firstK; rw [if_pos ⟨h1, h2⟩]; rfl
theorem first_u {l : List Lk} {V : List Int} {i : Int} {X : Option (Int × Int × List Int)} (h : (candU l (V.drop i.toNat)).head? = X) (h0 : 0 ≤ i) (h1 : i < (V.length : Int)) :
   (candV l (V.getD i.toNat 0) ((besK l (V.getD i.toNat 0)).drop (0 : Int).toNat) ++ candU l (V.drop (i + 1).toNat)).head? = X := by
 rw [drop_roundD 0 h0 h1, candU_cons] at h; exact h
theorem first_v {l : List Lk} {B : List Int} {j u : Int} {r : List (Int × Int × List Int)} {X : Option (Int × Int × List Int)} (h : (candV l u (B.drop j.toNat) ++ r).head? = X) (h0 : 0 ≤ j) (h1 : j < (B.length : Int)) :
   (candC l u (B.getD j.toNat 0) ((classesL l u (B.getD j.toNat 0)).drop (0 : Int).toNat) ++ (candV l u (B.drop (j + 1).toNat) ++ r)).head? = X := by
 rw [drop_roundD 0 h0 h1, candV_cons, List.append_assoc] at h; exact h
theorem first_c {l : List Lk} {C : List (List Int)} {k u v : Int} {r : List (Int × Int × List Int)} {X : Option (Int × Int × List Int)} (h : (candC l u v (C.drop k.toNat) ++ r).head? = X) (h0 : 0 ≤ k) (h1 : k < (C.length : Int)) (hn : willB l ((C.getD k.toNat []).length : Int) = false) :
   (candC l u v (C.drop (k + 1).toNat) ++ r).head? = X := by
 rw [drop_roundD [] h0 h1, candC_no hn] at h; exact h
theorem first_hit {l : List Lk} {C : List (List Int)} {k u v : Int} {r : List (Int × Int × List Int)} {X : Option (Int × Int × List Int)} (h : (candC l u v (C.drop k.toNat) ++ r).head? = X) (h0 : 0 ≤ k) (h1 : k < (C.length : Int)) (hn : willB l ((C.getD k.toNat []).length : Int) = true) :
   X = some (u, v, C.getD k.toNat []) := by
 rw [drop_roundD [] h0 h1, candC_yes hn] at h; exact h.symm
theorem first_cend {l : List Lk} {C : List (List Int)} {k u v : Int} {r : List (Int × Int × List Int)} {X : Option (Int × Int × List Int)} (h : (candC l u v (C.drop k.toNat) ++ r).head? = X) (h1 : (C.length : Int) ≤ k) : r.head? = X := by
 rw [List.drop_of_length_le (by omega)] at h; exact h
theorem first_vend {l : List Lk} {B : List Int} {j u : Int} {r : List (Int × Int × List Int)} {X : Option (Int × Int × List Int)} (h : (candV l u (B.drop j.toNat) ++ r).head? = X) (h1 : (B.length : Int) ≤ j) : r.head? = X := by
 rw [List.drop_of_length_le (by omega)] at h; exact h
theorem first_uend {l : List Lk} {V : List Int} {i : Int} {X : Option (Int × Int × List Int)} (h : (candU l (V.drop i.toNat)).head? = X) (h1 : (V.length : Int) ≤ i) : X = none := by
 rw [List.drop_of_length_le (by omega)] at h; exact h.symm
theorem first_no {l : List Lk} (h : ((wholeR l).2 = false ∨ solidB (wholeR l).1.1.1 (wholeR l).1.1.2 (wholeR l).1.2.1 (wholeR l).1.2.2 = false) ∨ ringsB l = true) : firstK l = none := by
 unfold firstK
 refine if_neg fun q => ?_
 obtain ⟨q1, q2⟩ := q
 unfold rightK at q1
 rw [Bool.and_eq_true] at q1
 rcases h with (h | h) | h
 · rw [q1.1] at h; cases h
 · rw [q1.2] at h; cases h
 rw [q2] at h; cases h
theorem first_giv {l : List Lk} {S : Stab} {w : World} {sd : Value} {x : Int × Int × List Int} (hf : firstK l = some x) (h : Rd S w sd x.2.2) : ∃ sd', (Value.tuple #[.agg #[.int .i64 x.1, .int .i64 x.2.1, sd], .bool true]) = .tuple #[.agg #[.int .i64 (firstD l).1, .int .i64 (firstD l).2.1, sd'], .bool (firstK l).isSome] ∧ Rd S w sd' (firstD l).2.2 := by
 unfold firstD; rw [hf]; exact ⟨sd, rfl, h⟩
theorem first_nil {l : List Lk} {S : Stab} {w : World} (hf : firstK l = none) : ∃ sd', (Value.tuple #[.agg #[.int .i64 0, .int .i64 0, .slice none 0 0], .bool false]) = .tuple #[.agg #[.int .i64 (firstD l).1, .int .i64 (firstD l).2.1, sd'], .bool (firstK l).isSome] ∧ Rd S w sd' (firstD l).2.2 := by
 unfold firstD; rw [hf]; exact ⟨_, rfl, rd_nil⟩
structure WhF (l : List Lk) : Prop where
 wh : okWh l
 part : partE (wholeR l).1.1.1 (wholeR l).1.1.2 (wholeR l).1.2.1 (wholeR l).1.2.2 = 0
 vb : ∀ x ∈ (wholeR l).1.2.1, 0 ≤ x ∧ x < 1024
 lb : ∀ j, j < (wholeR l).1.2.2.length → 0 ≤ (wholeR l).1.2.2.getD j 0 ∧ (wholeR l).1.2.2.getD j 0 < ((wholeR l).1.1.2.length : Int)
 eb : ∀ j, j < (wholeR l).1.1.2.length → wfI ((wholeR l).1.1.2.getD j (0, 0)).1 ∧ wfI ((wholeR l).1.1.2.getD j (0, 0)).2
 vl : (wholeR l).1.2.1.length ≤ 1024
 ll : (wholeR l).1.2.2.length ≤ 1024
theorem whole_facts {l : List Lk} (h1 : (wholeR l).2 = true) (h2 : solidB (wholeR l).1.1.1 (wholeR l).1.1.2 (wholeR l).1.2.1 (wholeR l).1.2.2 = true) : WhF l := by
 have hw : okWh l := Classical.byContradiction fun q => by unfold wholeR at h1; rw [if_neg q] at h1; cases h1
 have hp : partE (wholeR l).1.1.1 (wholeR l).1.1.2 (wholeR l).1.2.1 (wholeR l).1.2.2 = 0 := by
   unfold solidB at h2; simp only [Bool.and_eq_true, decide_eq_true_eq] at h2; exact h2.1.1
 obtain ⟨p1, p2, p3, p4⟩ := part_iff.1 hp
 obtain ⟨q1, q2, q3, q4⟩ := rightE_0 p1
 have r1 := rises_len p2 q1
 have r2 := rises_len p3 (by omega)
 refine ⟨hw, hp, fun x hx => ?_, fun j hj => ?_, fun j hj => ?_, by omega, by omega⟩
 · have := (rises_iff.1 p2).2 x hx; omega
 · have := p3 j hj; exact ⟨this.1, this.2.1⟩
 have := q4 j hj; unfold okE at this; unfold wfI; omega
theorem besK_sub {l : List Lk} {u v : Int} (h : v ∈ besK l u) : v ∈ (wholeR l).1.2.1 := (List.mem_filter.1 (List.mem_filter.1 h).1).1
theorem besK_len (l : List Lk) (u : Int) : (besK l u).length ≤ (wholeR l).1.2.1.length := Nat.le_trans (List.length_filter_le _ _) (List.length_filter_le _ _)
theorem classes_len (l : List Lk) (u v : Int) : (classesL l u v).length ≤ l.length := by
 unfold classesL groupsR
 rw [List.length_map]
 have h1 : (rootsTo (clR u v l) (l.length : Int)).length ≤ (upto (l.length : Int)).length := List.length_filter_le _ _
 have h2 := upto_len (l.length : Int)
 omega
theorem class_len {l : List Lk} {u v : Int} {c : List Int} (h : c ∈ classesL l u v) : c.length ≤ l.length := by
 unfold classesL groupsR at h
 obtain ⟨r, _, rfl⟩ := List.mem_map.1 h
 have h1 : ((upto (l.length : Int)).filter fun j => decide (clR u v l j = r)).length ≤ (upto (l.length : Int)).length := List.length_filter_le _ _
 have h2 := upto_len (l.length : Int)
 omega
def kindK (l : List Lk) : Int := if rightK l = false then 0 else if l.length = 1 then 0 else if ringsB l = true then 1 else if (vertsL l).length = 2 then 2 else if (firstK l).isSome = true then 4 else 3
theorem first_any (vl : Value) (l : List (Int × Int × Int)) (o : Orig) (hL : Rd (· < o.w.heap.size) o.w vl l) (hs : l.length ≤ 100000) (hwf : WfL l) :
 Calls Try.prog 65 [vl].toArray o.w (Giv o (fun S v w' => ∃ sd, v = .tuple #[.agg #[.int .i64 (firstD l).1, .int .i64 (firstD l).2.1, sd], .bool (firstK l).isSome] ∧ Rd S w' sd (firstD l).2.2)) := by
 have hwb := whole_bd l
 have hwc := whole_len (l := l) (by omega)
 refine enter Try.f65 69 Try.func65 fun a hA => ?_
 replace hA := env_sub [(0, vl)] hA
 have H := Fr.start o
 refine go_seq fun K1 hK1 => ?_
 refine region_list ?_
 refine list_at 0 ?_; refine q_alloc 0 2 81 [.int .i64 0, .int .i64 0, (.slice none 0 0)] [(0, vl)] hA H fun b2 a w3 H hA hG hge_b2 => ?_
 clear hge_b2
 refine q_list 1 1 [] [(0, vl), (2, pv b2)] (TT ∧ True) hA H ⟨tv, tv⟩ fun a w4 hA H hG => ?_
 refine list_end ?_
 refine hK1 _ _ ?_
 refine go_seq fun K5 hK5 => ?_
 refine region_list ?_
 refine q_list 0 1 [] [(0, vl), (2, pv b2), (14, vl)] (TT ∧ True) hA H ⟨tv, tv⟩ fun a w6 hA H hG => ?_
 refine list_at 1 ?_; refine q_call 1 15 87 #[.tmp 14] #[69] [vl] _ [(0, vl), (2, pv b2)] hA H (by exact pwhole_any vl l H.at ((H.arg hL)) (by omega) hwf) fun v7 a w8 S hR9 H hA hG => ?_
 obtain ⟨v7g, v7p, rfl, hR9g, hR9p⟩ := hR9
 obtain ⟨v7e, rfl, hR9e⟩ := gp_rd hR9g; obtain ⟨v7a, v7b, rfl, hR9a, hR9b⟩ := two_rd hR9p
 replace H := H.ro hR9e; replace H := H.ro hR9a; replace H := H.ro hR9b
 replace H : Fr _ _ _ [.ro v7b ((wholeR l).1.2.2), .ro v7a ((wholeR l).1.2.1), .ro v7e ((wholeR l).1.1.2), .box b2 81 [.int .i64 0, .int .i64 0, (.slice none 0 0)]] := H
 refine q_list 2 4 [] [(0, vl), (2, pv b2), (16, .agg #[.int .i64 ((wholeR l).1.1.1), v7e]), (17, .agg #[v7a, v7b]), (18, .bool ((wholeR l).2))] (TT ∧ TT ∧ TT ∧ TT ∧ True) hA H ⟨tv, tv, tv, tv, tv⟩ fun a w13 hA H hG => ?_
 refine list_at 6 ?_; refine q_alloc 6 4 24 [.int .i64 0, (.slice none 0 0)] [(0, vl), (2, pv b2), (16, .agg #[.int .i64 ((wholeR l).1.1.1), v7e]), (17, .agg #[v7a, v7b]), (18, .bool ((wholeR l).2))] hA H fun b14 a w15 H hA hG hge_b14 => ?_
 clear hge_b14
 refine list_at 7 ?_; refine q_alloc 7 5 29 [(.slice none 0 0), (.slice none 0 0)] [(0, vl), (2, pv b2), (4, pv b14), (16, .agg #[.int .i64 ((wholeR l).1.1.1), v7e]), (17, .agg #[v7a, v7b]), (18, .bool ((wholeR l).2))] hA H fun b16 a w17 H hA hG hge_b16 => ?_
 clear hge_b16
 refine list_at 8 ?_; refine q_store 8 24 (.tmp 4) (.tmp 16) 1 b14 (0) 24 [.int .i64 0, (.slice none 0 0)] [.int .i64 ((wholeR l).1.1.1), v7e] [.int .i64 ((wholeR l).1.1.1), v7e] (.agg #[.int .i64 ((wholeR l).1.1.1), v7e]) [(0, vl), (2, pv b2), (4, pv b14), (5, pv b16), (17, .agg #[v7a, v7b]), (18, .bool ((wholeR l).2))] hA H rfl rfl (Nat.le_of_ble_eq_true (by kernel_rfl)) rfl (fun v hv => by simp only [List.mem_cons, List.not_mem_nil, or_false] at hv; rcases hv with rfl | rfl; exact rfl; exact (rd_one (H.get 4 rfl))) fun a w18 H hA hG => ?_
 replace H : Fr _ _ _ [.box b16 29 [(.slice none 0 0), (.slice none 0 0)], .box b14 24 [.int .i64 ((wholeR l).1.1.1), v7e], .ro v7b ((wholeR l).1.2.2), .ro v7a ((wholeR l).1.2.1), .ro v7e ((wholeR l).1.1.2), .box b2 81 [.int .i64 0, .int .i64 0, (.slice none 0 0)]] := H
 refine list_at 9 ?_; refine q_store 9 29 (.tmp 5) (.tmp 17) 0 b16 (0) 29 [(.slice none 0 0), (.slice none 0 0)] [v7a, v7b] [v7a, v7b] (.agg #[v7a, v7b]) [(0, vl), (2, pv b2), (4, pv b14), (5, pv b16), (18, .bool ((wholeR l).2))] hA H rfl rfl (Nat.le_of_ble_eq_true (by kernel_rfl)) rfl (fun v hv => by simp only [List.mem_cons, List.not_mem_nil, or_false] at hv; rcases hv with rfl | rfl; exact (rd_one (H.get 3 rfl)); exact (rd_one (H.get 2 rfl))) fun a w19 H hA hG => ?_
 replace H : Fr _ _ _ [.box b16 29 [v7a, v7b], .box b14 24 [.int .i64 ((wholeR l).1.1.1), v7e], .ro v7b ((wholeR l).1.2.2), .ro v7a ((wholeR l).1.2.1), .ro v7e ((wholeR l).1.1.2), .box b2 81 [.int .i64 0, .int .i64 0, (.slice none 0 0)]] := H
 refine q_list 10 1 [] [(0, vl), (2, pv b2), (4, pv b14), (5, pv b16), (6, .bool ((wholeR l).2))] (TT ∧ True) hA H ⟨tv, tv⟩ fun a w20 hA H hG => ?_
 refine list_end ?_
 refine hK5 _ _ ?_
 refine go_seq fun K21 hK21 => ?_
 refine go_seq fun K22 hK22 => ?_
 refine q_reg [(22, .agg #[.int .i64 ((wholeR l).1.1.1), v7e]), (23, .agg #[v7a, v7b]), (24, .bool (solidB ((wholeR l).1.1.1) ((wholeR l).1.1.2) ((wholeR l).1.2.1) ((wholeR l).1.2.2))), (29, .bool (ringsB l))] [(0, vl), (2, pv b2), (4, pv b14), (5, pv b16), (30, .bool (((!((wholeR l).2)) || (!(solidB ((wholeR l).1.1.1) ((wholeR l).1.1.2) ((wholeR l).1.2.1) ((wholeR l).1.2.2)))) || (ringsB l)))] (TT ∧ TT ∧ TT ∧ ((!((wholeR l).2)) = false → (Try.prog.info? 24).isSome = true ∧ RowOk (On w20) b14 (0) (Try.prog.cellsOf 24) #[.int .i64 ((wholeR l).1.1.1), v7e]) ∧ ((!((wholeR l).2)) = false → (Try.prog.info? 29).isSome = true ∧ RowOk (On w20) b16 (0) (Try.prog.cellsOf 29) #[v7a, v7b]) ∧ ((!((wholeR l).2)) = false → Callable Try.prog 50 ∧ CallOk Try.prog (On w20) 50 [.agg #[.int .i64 ((wholeR l).1.1.1), v7e], .agg #[v7a, v7b]].toArray (.bool (solidB ((wholeR l).1.1.1) ((wholeR l).1.1.2) ((wholeR l).1.2.1) ((wholeR l).1.2.2)))) ∧ ((!((wholeR l).2)) = false → True) ∧ TT ∧ TT ∧ (((!((wholeR l).2)) || (!(solidB ((wholeR l).1.1.1) ((wholeR l).1.1.2) ((wholeR l).1.2.1) ((wholeR l).1.2.2)))) = false → True) ∧ (((!((wholeR l).2)) || (!(solidB ((wholeR l).1.1.1) ((wholeR l).1.1.2) ((wholeR l).1.2.1) ((wholeR l).1.2.2)))) = false → Callable Try.prog 90 ∧ CallOk Try.prog (On w20) 90 [vl].toArray (.bool (ringsB l))) ∧ TT ∧ True) hA H ⟨tv, tv, tv, fun _ => ⟨by kernel_rfl, by exact box_row H 1 rfl 0 2⟩, fun _ => ⟨by kernel_rfl, by exact box_row H 0 rfl 0 2⟩, fun hg0 => by replace hg0 := (nF hg0); exact ⟨callable_of, callOk_of fun w hw => by exact solid_any ((wholeR l).1.1.1) v7e ((wholeR l).1.1.2) v7a v7b ((wholeR l).1.2.1) ((wholeR l).1.2.2) w (by omega) (((H.on hw).get 4 rfl)) (((H.on hw).get 3 rfl)) (((H.on hw).get 2 rfl))⟩, fun _ => tv, tv, tv, fun _ => tv, fun hg0 => by replace hg0 := (⟨(nF ((oF hg0).1)), (nF ((oF hg0).2))⟩ : _ ∧ _); exact ⟨callable_of, callOk_of fun w hw => by exact rings_any vl l w (((H.on hw).arg hL)) (by omega) hwf⟩, tv, tv⟩ fun a w23 hA H hG => ?_
 refine hK22 _ _ ?_
 refine go_cond hA (.tmp 30) (((!((wholeR l).2)) || (!(solidB ((wholeR l).1.1.1) ((wholeR l).1.1.2) ((wholeR l).1.2.1) ((wholeR l).1.2.2)))) || (ringsB l)) (fun hb24 => ?_) (fun hb24 => ?_)
 · have hhb24 := (oT hb24).imp (fun h => (oT h).imp (fun h => (nT h)) (fun h => (nT h))) (fun h => h)
   refine go_seq fun K25 hK25 => ?_
   refine region_list ?_
   refine q_list 0 1 [(31, .agg #[.int .i64 0, .int .i64 0, (.slice none 0 0)])] [(2, pv b2), (31, .agg #[.int .i64 0, .int .i64 0, (.slice none 0 0)])] ((∀ w, (Instr.build 81 #[]).run Try.prog w = .ok (.agg #[.int .i64 0, .int .i64 0, (.slice none 0 0)]) w) ∧ True) hA H ⟨fun w => by kernel_rfl, tv⟩ fun a w26 hA H hG => ?_
   refine list_at 1 ?_; refine q_store 1 81 (.tmp 2) (.tmp 31) 5 b2 (0) 81 [.int .i64 0, .int .i64 0, (.slice none 0 0)] [.int .i64 0, .int .i64 0, (.slice none 0 0)] [.int .i64 0, .int .i64 0, (.slice none 0 0)] (.agg #[.int .i64 0, .int .i64 0, (.slice none 0 0)]) [(2, pv b2)] hA H rfl rfl (Nat.le_of_ble_eq_true (by kernel_rfl)) rfl (fun v hv => by simp only [List.mem_cons, List.not_mem_nil, or_false] at hv; rcases hv with rfl | rfl | rfl; exact rfl; exact rfl; exact rfl) fun a w27 H hA hG => ?_
   replace H : Fr _ _ _ [.box b16 29 [v7a, v7b], .box b14 24 [.int .i64 ((wholeR l).1.1.1), v7e], .ro v7b ((wholeR l).1.2.2), .ro v7a ((wholeR l).1.2.1), .ro v7e ((wholeR l).1.1.2), .box b2 81 [.int .i64 0, .int .i64 0, (.slice none 0 0)]] := H
   refine q_list 2 1 [] [(2, pv b2), (3, .bool false)] (TT ∧ True) hA H ⟨tv, tv⟩ fun a w28 hA H hG => ?_
   refine list_end ?_
   refine hK25 _ _ ?_
   refine go_ret_ ?_
   refine ret_cell2 2 3 81 5 b2 81 [.int .i64 0, .int .i64 0, (.slice none 0 0)] #[.int .i64 0, .int .i64 0, (.slice none 0 0)] (.bool false) hA H rfl ?_ (ht := ⟨_, Try.underlying81⟩)
   exact ⟨_, rfl, first_nil (first_no hhb24), H.below⟩
 have hhb24 := (⟨(⟨(nF ((oF ((oF hb24).1)).1)), (nF ((oF ((oF hb24).1)).2))⟩ : _ ∧ _), (oF hb24).2⟩ : _ ∧ _)
 refine go_skip ?_
 refine hK21 _ _ ?_
 refine go_seq fun K29 hK29 => ?_
 refine go_seq fun K30 hK30 => ?_
 have hW := whole_facts hhb24.1.1 hhb24.1.2
 have hrk : rightK l = true := by unfold rightK; rw [hhb24.1.1, hhb24.1.2]; rfl
 have hrg : ringsB l = false := hhb24.2
 have hvl := hW.vl; have hll := hW.ll
 refine q_reg [(33, v7a), (34, iv (((wholeR l).1.2.1).length : Int))] [(0, vl), (2, pv b2), (4, pv b14), (5, pv b16), (33, v7a), (34, iv (((wholeR l).1.2.1).length : Int)), (35, iv 0)] ((0 < Try.prog.cellsOf 27) ∧ (CellOk (On w23) b16 (0 + 0) (v7a)) ∧ (LenOk v7a (((wholeR l).1.2.1).length : Int)) ∧ TT ∧ True) hA H ⟨by decide +kernel, by exact box_cell H 0 rfl 0, by exact len_ok (H.get 3 rfl), tv, tv⟩ fun a w31 hA H hG => ?_
 refine hK30 _ _ ?_
 refine go_block 0 ?_
 refine go_loop_ (Int) (fun x_ a W => (fun (i : Int) => EnvOk 69 a (keepEnv [(0, vl), (2, pv b2), (4, pv b14), (5, pv b16), (33, v7a), (34, iv (((wholeR l).1.2.1).length : Int)), (35, iv i)]) ∧ (∃ S, Fr o W S [.box b16 29 [v7a, v7b], .box b14 24 [.int .i64 ((wholeR l).1.1.1), v7e], .ro v7b ((wholeR l).1.2.2), .ro v7a ((wholeR l).1.2.1), .ro v7e ((wholeR l).1.1.2), .box b2 81 [.int .i64 0, .int .i64 0, (.slice none 0 0)]]) ∧ 0 ≤ i ∧ i ≤ ((wholeR l).1.2.1.length : Int) ∧ (candU l ((wholeR l).1.2.1.drop i.toNat)).head? = firstK l) x_) (fun x_ => (fun (i : Int) => (((wholeR l).1.2.1.length : Int) - i).toNat) x_) (0) ?_ (fun i a w33 hI => ?_)
 · (try dsimp only); exact ⟨env_sub _ hA, ⟨_, H⟩, by omega, by omega, first_start hrk hrg⟩
 obtain ⟨hA, ⟨S, H⟩, h0, h0b, hi⟩ := hI
 try dsimp only at h0 h0b hi
 refine go_seq fun K34 hK34 => ?_
 refine q_reg [] [(0, vl), (2, pv b2), (4, pv b14), (5, pv b16), (33, v7a), (34, iv (((wholeR l).1.2.1).length : Int)), (35, iv i), (36, .bool (decide (i < (((wholeR l).1.2.1).length : Int))))] (TT ∧ True) hA H ⟨tv, tv⟩ fun a w35 hA H hG => ?_
 refine hK34 _ _ ?_
 refine go_seq fun K36 hK36 => ?_
 refine go_cond hA (.tmp 36) (decide (i < (((wholeR l).1.2.1).length : Int))) (fun hb37 => ?_) (fun hb37 => ?_)
 · have hhb37 := of_decide_eq_true hb37
   refine go_skip ?_
   refine hK36 _ _ ?_
   refine go_seq fun K38 hK38 => ?_
   refine go_block 1 ?_
   refine go_seq fun K39 hK39 => ?_
   have hu9 := hW.vb _ (getD_mem (l := (wholeR l).1.2.1) (i := i.toNat) (d := 0) (by omega))
   have hbl := besK_len l ((wholeR l).1.2.1.getD i.toNat 0)
   refine q_reg [(38, iv (((wholeR l).1.2.1).getD i.toNat 0))] [(0, vl), (2, pv b2), (4, pv b14), (5, pv b16), (8, iv (((wholeR l).1.2.1).getD i.toNat 0)), (33, v7a), (34, iv (((wholeR l).1.2.1).length : Int)), (35, iv i)] (((Try.prog.info? 3).isSome = true ∧ IdxOk v7a i) ∧ (CellOk (On w35) (hdB v7a) (hdO v7a + i.toNat * 1) (.int .i64 (((wholeR l).1.2.1).getD i.toNat 0))) ∧ TT ∧ True) hA H ⟨⟨by kernel_rfl, by exact idx_ok (H.get 3 rfl) (by omega) (by omega)⟩, by exact cell_flat (i := i) (H.get 3 rfl) (by omega) (by omega) 0 0, tv, tv⟩ fun a w40 hA H hG => ?_
   refine hK39 _ _ ?_
   refine go_seq fun K41 hK41 => ?_
   refine region_list ?_
   refine q_list 0 3 [(39, .agg #[.int .i64 ((wholeR l).1.1.1), v7e]), (40, .agg #[v7a, v7b])] [(0, vl), (2, pv b2), (4, pv b14), (5, pv b16), (8, iv (((wholeR l).1.2.1).getD i.toNat 0)), (33, v7a), (34, iv (((wholeR l).1.2.1).length : Int)), (35, iv i), (39, .agg #[.int .i64 ((wholeR l).1.1.1), v7e]), (40, .agg #[v7a, v7b]), (41, iv (((wholeR l).1.2.1).getD i.toNat 0))] (((Try.prog.info? 24).isSome = true ∧ RowOk (On w40) b14 (0) (Try.prog.cellsOf 24) #[.int .i64 ((wholeR l).1.1.1), v7e]) ∧ ((Try.prog.info? 29).isSome = true ∧ RowOk (On w40) b16 (0) (Try.prog.cellsOf 29) #[v7a, v7b]) ∧ TT ∧ True) hA H ⟨⟨by kernel_rfl, by exact box_row H 1 rfl 0 2⟩, ⟨by kernel_rfl, by exact box_row H 0 rfl 0 2⟩, tv, tv⟩ fun a w42 hA H hG => ?_
   refine list_at 3 ?_; refine q_call 3 42 91 #[.tmp 39, .tmp 40, .tmp 41] #[24, 29, 3] [.agg #[.int .i64 ((wholeR l).1.1.1), v7e], .agg #[v7a, v7b], .int .i64 (((wholeR l).1.2.1).getD i.toNat 0)] (fun S v_ w' => Rd S w' v_ ((besK l (((wholeR l).1.2.1).getD i.toNat 0)))) [(0, vl), (2, pv b2), (4, pv b14), (5, pv b16), (8, iv (((wholeR l).1.2.1).getD i.toNat 0)), (33, v7a), (34, iv (((wholeR l).1.2.1).length : Int)), (35, iv i)] hA H (by exact beside_any ((wholeR l).1.1.1) v7e ((wholeR l).1.1.2) v7a v7b ((wholeR l).1.2.1) ((wholeR l).1.2.2) (((wholeR l).1.2.1).getD i.toNat 0) H.at (by omega) ((H.get 4 rfl)) ((H.get 3 rfl)) ((H.get 2 rfl)) (by unfold wfI; omega) (fun x hx => by have := hW.vb x hx; unfold wfI; omega) hW.lb hW.eb (by omega) (by omega)) fun v43 a w44 S hR45 H hA hG => ?_
   replace H := H.ro hR45
   refine q_list 4 2 [(43, iv ((besK l (((wholeR l).1.2.1).getD i.toNat 0)).length : Int))] [(0, vl), (2, pv b2), (4, pv b14), (5, pv b16), (8, iv (((wholeR l).1.2.1).getD i.toNat 0)), (33, v7a), (34, iv (((wholeR l).1.2.1).length : Int)), (35, iv i), (42, v43), (43, iv ((besK l (((wholeR l).1.2.1).getD i.toNat 0)).length : Int)), (44, iv 0)] ((LenOk v43 ((besK l (((wholeR l).1.2.1).getD i.toNat 0)).length : Int)) ∧ TT ∧ True) hA H ⟨by exact len_ok (H.get 0 rfl), tv, tv⟩ fun a w47 hA H hG => ?_
   refine list_end ?_
   refine hK41 _ _ ?_
   refine go_block 2 ?_
   refine go_loop_ (Int) (fun x_ a W => (fun (j : Int) => EnvOk 69 a (keepEnv [(0, vl), (2, pv b2), (4, pv b14), (5, pv b16), (8, iv (((wholeR l).1.2.1).getD i.toNat 0)), (33, v7a), (34, iv (((wholeR l).1.2.1).length : Int)), (35, iv i), (42, v43), (43, iv ((besK l (((wholeR l).1.2.1).getD i.toNat 0)).length : Int)), (44, iv j)]) ∧ (∃ S, Fr o W S [.ro v43 (besK l (((wholeR l).1.2.1).getD i.toNat 0)), .box b16 29 [v7a, v7b], .box b14 24 [.int .i64 ((wholeR l).1.1.1), v7e], .ro v7b ((wholeR l).1.2.2), .ro v7a ((wholeR l).1.2.1), .ro v7e ((wholeR l).1.1.2), .box b2 81 [.int .i64 0, .int .i64 0, (.slice none 0 0)]]) ∧ 0 ≤ j ∧ j ≤ ((besK l ((wholeR l).1.2.1.getD i.toNat 0)).length : Int) ∧ (candV l ((wholeR l).1.2.1.getD i.toNat 0) ((besK l ((wholeR l).1.2.1.getD i.toNat 0)).drop j.toNat) ++ candU l ((wholeR l).1.2.1.drop (i + 1).toNat)).head? = firstK l) x_) (fun x_ => (fun (j : Int) => (((besK l ((wholeR l).1.2.1.getD i.toNat 0)).length : Int) - j).toNat) x_) (0) ?_ (fun j a w49 hI => ?_)
   · (try dsimp only); exact ⟨env_sub _ hA, ⟨_, H⟩, by omega, by omega, first_u hi h0 (by omega)⟩
   obtain ⟨hA, ⟨S, H⟩, j0, j0b, hj⟩ := hI
   try dsimp only at j0 j0b hj
   refine go_seq fun K50 hK50 => ?_
   refine q_reg [] [(0, vl), (2, pv b2), (4, pv b14), (5, pv b16), (8, iv (((wholeR l).1.2.1).getD i.toNat 0)), (33, v7a), (34, iv (((wholeR l).1.2.1).length : Int)), (35, iv i), (42, v43), (43, iv ((besK l (((wholeR l).1.2.1).getD i.toNat 0)).length : Int)), (44, iv j), (45, .bool (decide (j < ((besK l (((wholeR l).1.2.1).getD i.toNat 0)).length : Int))))] (TT ∧ True) hA H ⟨tv, tv⟩ fun a w51 hA H hG => ?_
   refine hK50 _ _ ?_
   refine go_seq fun K52 hK52 => ?_
   refine go_cond hA (.tmp 45) (decide (j < ((besK l (((wholeR l).1.2.1).getD i.toNat 0)).length : Int))) (fun hb53 => ?_) (fun hb53 => ?_)
   · have hhb53 := of_decide_eq_true hb53
     refine go_skip ?_
     refine hK52 _ _ ?_
     refine go_seq fun K54 hK54 => ?_
     refine go_block 3 ?_
     refine go_seq fun K55 hK55 => ?_
     have hv9 := hW.vb _ (besK_sub (getD_mem (l := (besK l ((wholeR l).1.2.1.getD i.toNat 0))) (i := j.toNat) (d := 0) (by omega)))
     have hcl := classes_len l ((wholeR l).1.2.1.getD i.toNat 0) ((besK l ((wholeR l).1.2.1.getD i.toNat 0)).getD j.toNat 0)
     refine q_reg [(47, iv ((besK l (((wholeR l).1.2.1).getD i.toNat 0)).getD j.toNat 0))] [(0, vl), (2, pv b2), (4, pv b14), (5, pv b16), (8, iv (((wholeR l).1.2.1).getD i.toNat 0)), (10, iv ((besK l (((wholeR l).1.2.1).getD i.toNat 0)).getD j.toNat 0)), (33, v7a), (34, iv (((wholeR l).1.2.1).length : Int)), (35, iv i), (42, v43), (43, iv ((besK l (((wholeR l).1.2.1).getD i.toNat 0)).length : Int)), (44, iv j)] (((Try.prog.info? 3).isSome = true ∧ IdxOk v43 j) ∧ (CellOk (On w51) (hdB v43) (hdO v43 + j.toNat * 1) (.int .i64 ((besK l (((wholeR l).1.2.1).getD i.toNat 0)).getD j.toNat 0))) ∧ TT ∧ True) hA H ⟨⟨by kernel_rfl, by exact idx_ok (H.get 0 rfl) (by omega) (by omega)⟩, by exact cell_flat (i := j) (H.get 0 rfl) (by omega) (by omega) 0 0, tv, tv⟩ fun a w56 hA H hG => ?_
     refine hK55 _ _ ?_
     refine go_seq fun K57 hK57 => ?_
     refine region_list ?_
     refine q_list 0 3 [] [(0, vl), (2, pv b2), (4, pv b14), (5, pv b16), (8, iv (((wholeR l).1.2.1).getD i.toNat 0)), (10, iv ((besK l (((wholeR l).1.2.1).getD i.toNat 0)).getD j.toNat 0)), (33, v7a), (34, iv (((wholeR l).1.2.1).length : Int)), (35, iv i), (42, v43), (43, iv ((besK l (((wholeR l).1.2.1).getD i.toNat 0)).length : Int)), (44, iv j), (48, vl), (49, iv (((wholeR l).1.2.1).getD i.toNat 0)), (50, iv ((besK l (((wholeR l).1.2.1).getD i.toNat 0)).getD j.toNat 0))] (TT ∧ TT ∧ TT ∧ True) hA H ⟨tv, tv, tv, tv⟩ fun a w58 hA H hG => ?_
     refine list_at 3 ?_; refine q_call 3 51 86 #[.tmp 48, .tmp 49, .tmp 50] #[69, 3, 3] [vl, .int .i64 (((wholeR l).1.2.1).getD i.toNat 0), .int .i64 ((besK l (((wholeR l).1.2.1).getD i.toNat 0)).getD j.toNat 0)] (fun S v_ w' => Rd S w' v_ ((classesL l (((wholeR l).1.2.1).getD i.toNat 0) ((besK l (((wholeR l).1.2.1).getD i.toNat 0)).getD j.toNat 0)))) [(0, vl), (2, pv b2), (4, pv b14), (5, pv b16), (8, iv (((wholeR l).1.2.1).getD i.toNat 0)), (10, iv ((besK l (((wholeR l).1.2.1).getD i.toNat 0)).getD j.toNat 0)), (33, v7a), (34, iv (((wholeR l).1.2.1).length : Int)), (35, iv i), (42, v43), (43, iv ((besK l (((wholeR l).1.2.1).getD i.toNat 0)).length : Int)), (44, iv j)] hA H (by exact classes_any vl l (((wholeR l).1.2.1).getD i.toNat 0) ((besK l (((wholeR l).1.2.1).getD i.toNat 0)).getD j.toNat 0) H.at ((H.arg hL)) (by omega) (by omega) (by omega) (fun i h0 h1 => ⟨(hwf i h0 h1).1, (hwf i h0 h1).2.1⟩)) fun v59 a w60 S hR61 H hA hG => ?_
     replace H := H.ro hR61
     refine q_list 4 2 [(52, iv ((classesL l (((wholeR l).1.2.1).getD i.toNat 0) ((besK l (((wholeR l).1.2.1).getD i.toNat 0)).getD j.toNat 0)).length : Int))] [(0, vl), (2, pv b2), (4, pv b14), (5, pv b16), (8, iv (((wholeR l).1.2.1).getD i.toNat 0)), (10, iv ((besK l (((wholeR l).1.2.1).getD i.toNat 0)).getD j.toNat 0)), (33, v7a), (34, iv (((wholeR l).1.2.1).length : Int)), (35, iv i), (42, v43), (43, iv ((besK l (((wholeR l).1.2.1).getD i.toNat 0)).length : Int)), (44, iv j), (51, v59), (52, iv ((classesL l (((wholeR l).1.2.1).getD i.toNat 0) ((besK l (((wholeR l).1.2.1).getD i.toNat 0)).getD j.toNat 0)).length : Int)), (53, iv 0)] ((LenOk v59 ((classesL l (((wholeR l).1.2.1).getD i.toNat 0) ((besK l (((wholeR l).1.2.1).getD i.toNat 0)).getD j.toNat 0)).length : Int)) ∧ TT ∧ True) hA H ⟨by exact len_ok (H.get 0 rfl), tv, tv⟩ fun a w63 hA H hG => ?_
     refine list_end ?_
     refine hK57 _ _ ?_
     refine go_block 4 ?_
     refine go_loop_ (Int) (fun x_ a W => (fun (k : Int) => EnvOk 69 a (keepEnv [(0, vl), (2, pv b2), (4, pv b14), (5, pv b16), (8, iv (((wholeR l).1.2.1).getD i.toNat 0)), (10, iv ((besK l (((wholeR l).1.2.1).getD i.toNat 0)).getD j.toNat 0)), (33, v7a), (34, iv (((wholeR l).1.2.1).length : Int)), (35, iv i), (42, v43), (43, iv ((besK l (((wholeR l).1.2.1).getD i.toNat 0)).length : Int)), (44, iv j), (51, v59), (52, iv ((classesL l (((wholeR l).1.2.1).getD i.toNat 0) ((besK l (((wholeR l).1.2.1).getD i.toNat 0)).getD j.toNat 0)).length : Int)), (53, iv k)]) ∧ (∃ S, Fr o W S [.ro v59 (classesL l (((wholeR l).1.2.1).getD i.toNat 0) ((besK l (((wholeR l).1.2.1).getD i.toNat 0)).getD j.toNat 0)), .ro v43 (besK l (((wholeR l).1.2.1).getD i.toNat 0)), .box b16 29 [v7a, v7b], .box b14 24 [.int .i64 ((wholeR l).1.1.1), v7e], .ro v7b ((wholeR l).1.2.2), .ro v7a ((wholeR l).1.2.1), .ro v7e ((wholeR l).1.1.2), .box b2 81 [.int .i64 0, .int .i64 0, (.slice none 0 0)]]) ∧ 0 ≤ k ∧ k ≤ ((classesL l ((wholeR l).1.2.1.getD i.toNat 0) ((besK l ((wholeR l).1.2.1.getD i.toNat 0)).getD j.toNat 0)).length : Int) ∧ (candC l ((wholeR l).1.2.1.getD i.toNat 0) ((besK l ((wholeR l).1.2.1.getD i.toNat 0)).getD j.toNat 0) ((classesL l ((wholeR l).1.2.1.getD i.toNat 0) ((besK l ((wholeR l).1.2.1.getD i.toNat 0)).getD j.toNat 0)).drop k.toNat) ++ (candV l ((wholeR l).1.2.1.getD i.toNat 0) ((besK l ((wholeR l).1.2.1.getD i.toNat 0)).drop (j + 1).toNat) ++ candU l ((wholeR l).1.2.1.drop (i + 1).toNat))).head? = firstK l) x_) (fun x_ => (fun (k : Int) => (((classesL l ((wholeR l).1.2.1.getD i.toNat 0) ((besK l ((wholeR l).1.2.1.getD i.toNat 0)).getD j.toNat 0)).length : Int) - k).toNat) x_) (0) ?_ (fun k a w65 hI => ?_)
     · (try dsimp only); exact ⟨env_sub _ hA, ⟨_, H⟩, by omega, by omega, first_v hj j0 (by omega)⟩
     obtain ⟨hA, ⟨S, H⟩, k0, k0b, hk⟩ := hI
     try dsimp only at k0 k0b hk
     refine go_seq fun K66 hK66 => ?_
     refine q_reg [] [(0, vl), (2, pv b2), (4, pv b14), (5, pv b16), (8, iv (((wholeR l).1.2.1).getD i.toNat 0)), (10, iv ((besK l (((wholeR l).1.2.1).getD i.toNat 0)).getD j.toNat 0)), (33, v7a), (34, iv (((wholeR l).1.2.1).length : Int)), (35, iv i), (42, v43), (43, iv ((besK l (((wholeR l).1.2.1).getD i.toNat 0)).length : Int)), (44, iv j), (51, v59), (52, iv ((classesL l (((wholeR l).1.2.1).getD i.toNat 0) ((besK l (((wholeR l).1.2.1).getD i.toNat 0)).getD j.toNat 0)).length : Int)), (53, iv k), (54, .bool (decide (k < ((classesL l (((wholeR l).1.2.1).getD i.toNat 0) ((besK l (((wholeR l).1.2.1).getD i.toNat 0)).getD j.toNat 0)).length : Int))))] (TT ∧ True) hA H ⟨tv, tv⟩ fun a w67 hA H hG => ?_
     refine hK66 _ _ ?_
     refine go_seq fun K68 hK68 => ?_
     refine go_cond hA (.tmp 54) (decide (k < ((classesL l (((wholeR l).1.2.1).getD i.toNat 0) ((besK l (((wholeR l).1.2.1).getD i.toNat 0)).getD j.toNat 0)).length : Int))) (fun hb69 => ?_) (fun hb69 => ?_)
     · have hhb69 := of_decide_eq_true hb69
       refine go_skip ?_
       refine hK68 _ _ ?_
       refine go_seq fun K70 hK70 => ?_
       refine go_block 5 ?_
       refine go_seq fun K71 hK71 => ?_
       have hkl := class_len (getD_mem (l := (classesL l ((wholeR l).1.2.1.getD i.toNat 0) ((besK l ((wholeR l).1.2.1.getD i.toNat 0)).getD j.toNat 0))) (i := k.toNat) (d := []) (by omega))
       obtain ⟨uc, huc, hur⟩ := cell_sliceC (C := On w67) H.keepsS (H.getS 0 rfl) k
       have hur := hur k0 (by omega)
       replace H := H.ro hur
       replace H : Fr _ _ _ [.ro uc ((classesL l ((wholeR l).1.2.1.getD i.toNat 0) ((besK l ((wholeR l).1.2.1.getD i.toNat 0)).getD j.toNat 0)).getD k.toNat []), .ro v59 (classesL l (((wholeR l).1.2.1).getD i.toNat 0) ((besK l (((wholeR l).1.2.1).getD i.toNat 0)).getD j.toNat 0)), .ro v43 (besK l (((wholeR l).1.2.1).getD i.toNat 0)), .box b16 29 [v7a, v7b], .box b14 24 [.int .i64 ((wholeR l).1.1.1), v7e], .ro v7b ((wholeR l).1.2.2), .ro v7a ((wholeR l).1.2.1), .ro v7e ((wholeR l).1.1.2), .box b2 81 [.int .i64 0, .int .i64 0, (.slice none 0 0)]] := H
       refine q_reg [(56, uc)] [(0, vl), (2, pv b2), (4, pv b14), (5, pv b16), (8, iv (((wholeR l).1.2.1).getD i.toNat 0)), (10, iv ((besK l (((wholeR l).1.2.1).getD i.toNat 0)).getD j.toNat 0)), (12, uc), (33, v7a), (34, iv (((wholeR l).1.2.1).length : Int)), (35, iv i), (42, v43), (43, iv ((besK l (((wholeR l).1.2.1).getD i.toNat 0)).length : Int)), (44, iv j), (51, v59), (52, iv ((classesL l (((wholeR l).1.2.1).getD i.toNat 0) ((besK l (((wholeR l).1.2.1).getD i.toNat 0)).getD j.toNat 0)).length : Int)), (53, iv k)] (((Try.prog.info? 27).isSome = true ∧ IdxOk v59 k) ∧ (CellOk (On w67) (hdB v59) (hdO v59 + k.toNat * 1) uc) ∧ TT ∧ True) hA H ⟨⟨by kernel_rfl, by exact idx_ok (H.get 1 rfl) (by omega) (by omega)⟩, by exact huc k0 (by omega), tv, tv⟩ fun a w72 hA H hG => ?_
       refine hK71 _ _ ?_
       refine go_seq fun K73 hK73 => ?_
       refine q_reg [(59, iv (((classesL l ((wholeR l).1.2.1.getD i.toNat 0) ((besK l ((wholeR l).1.2.1.getD i.toNat 0)).getD j.toNat 0)).getD k.toNat []).length : Int)), (60, .bool (decide (2 ≤ (((classesL l ((wholeR l).1.2.1.getD i.toNat 0) ((besK l ((wholeR l).1.2.1.getD i.toNat 0)).getD j.toNat 0)).getD k.toNat []).length : Int)) && decide (2 ≤ (l.length : Int) - (((classesL l ((wholeR l).1.2.1.getD i.toNat 0) ((besK l ((wholeR l).1.2.1.getD i.toNat 0)).getD j.toNat 0)).getD k.toNat []).length : Int))))] [(0, vl), (2, pv b2), (4, pv b14), (5, pv b16), (8, iv (((wholeR l).1.2.1).getD i.toNat 0)), (10, iv ((besK l (((wholeR l).1.2.1).getD i.toNat 0)).getD j.toNat 0)), (12, uc), (33, v7a), (34, iv (((wholeR l).1.2.1).length : Int)), (35, iv i), (42, v43), (43, iv ((besK l (((wholeR l).1.2.1).getD i.toNat 0)).length : Int)), (44, iv j), (51, v59), (52, iv ((classesL l (((wholeR l).1.2.1).getD i.toNat 0) ((besK l (((wholeR l).1.2.1).getD i.toNat 0)).getD j.toNat 0)).length : Int)), (53, iv k), (60, .bool (decide (2 ≤ (((classesL l ((wholeR l).1.2.1.getD i.toNat 0) ((besK l ((wholeR l).1.2.1.getD i.toNat 0)).getD j.toNat 0)).getD k.toNat []).length : Int)) && decide (2 ≤ (l.length : Int) - (((classesL l ((wholeR l).1.2.1.getD i.toNat 0) ((besK l ((wholeR l).1.2.1.getD i.toNat 0)).getD j.toNat 0)).getD k.toNat []).length : Int))))] (TT ∧ TT ∧ (LenOk uc (((classesL l ((wholeR l).1.2.1.getD i.toNat 0) ((besK l ((wholeR l).1.2.1.getD i.toNat 0)).getD j.toNat 0)).getD k.toNat []).length : Int)) ∧ (Callable Try.prog 92 ∧ CallOk Try.prog (On w72) 92 [vl, .int .i64 (((classesL l ((wholeR l).1.2.1.getD i.toNat 0) ((besK l ((wholeR l).1.2.1.getD i.toNat 0)).getD j.toNat 0)).getD k.toNat []).length : Int)].toArray (.bool (decide (2 ≤ (((classesL l ((wholeR l).1.2.1.getD i.toNat 0) ((besK l ((wholeR l).1.2.1.getD i.toNat 0)).getD j.toNat 0)).getD k.toNat []).length : Int)) && decide (2 ≤ (l.length : Int) - (((classesL l ((wholeR l).1.2.1.getD i.toNat 0) ((besK l ((wholeR l).1.2.1.getD i.toNat 0)).getD j.toNat 0)).getD k.toNat []).length : Int))))) ∧ True) hA H ⟨tv, tv, by exact len_ok (H.get 0 rfl), ⟨callable_of, callOk_of fun w hw => by exact will_any vl l (((classesL l ((wholeR l).1.2.1.getD i.toNat 0) ((besK l ((wholeR l).1.2.1.getD i.toNat 0)).getD j.toNat 0)).getD k.toNat []).length : Int) w (((H.on hw).arg hL)) (by omega) (by omega)⟩, tv⟩ fun a w74 hA H hG => ?_
       refine hK73 _ _ ?_
       refine go_cond hA (.tmp 60) (decide (2 ≤ (((classesL l ((wholeR l).1.2.1.getD i.toNat 0) ((besK l ((wholeR l).1.2.1.getD i.toNat 0)).getD j.toNat 0)).getD k.toNat []).length : Int)) && decide (2 ≤ (l.length : Int) - (((classesL l ((wholeR l).1.2.1.getD i.toNat 0) ((besK l ((wholeR l).1.2.1.getD i.toNat 0)).getD j.toNat 0)).getD k.toNat []).length : Int))) (fun hb75 => ?_) (fun hb75 => ?_)
       · have hhb75 := (⟨of_decide_eq_true ((aT hb75).1), of_decide_eq_true ((aT hb75).2)⟩ : _ ∧ _)
         refine go_seq fun K76 hK76 => ?_
         refine region_list ?_
         refine q_list 0 4 [(64, .agg #[.int .i64 (((wholeR l).1.2.1).getD i.toNat 0), .int .i64 ((besK l (((wholeR l).1.2.1).getD i.toNat 0)).getD j.toNat 0), uc])] [(2, pv b2), (64, .agg #[.int .i64 (((wholeR l).1.2.1).getD i.toNat 0), .int .i64 ((besK l (((wholeR l).1.2.1).getD i.toNat 0)).getD j.toNat 0), uc])] (TT ∧ TT ∧ TT ∧ (∀ w, (Instr.build 81 #[(0, iv (((wholeR l).1.2.1).getD i.toNat 0)), (1, iv ((besK l (((wholeR l).1.2.1).getD i.toNat 0)).getD j.toNat 0)), (2, uc)]).run Try.prog w = .ok (.agg #[.int .i64 (((wholeR l).1.2.1).getD i.toNat 0), .int .i64 ((besK l (((wholeR l).1.2.1).getD i.toNat 0)).getD j.toNat 0), uc]) w) ∧ True) hA H ⟨tv, tv, tv, fun w => by obtain ⟨_, _, _, e0⟩ := rd_form (H.get 0 rfl); rw [e0]; kernel_rfl, tv⟩ fun a w77 hA H hG => ?_
         refine list_at 4 ?_; refine q_store 4 81 (.tmp 2) (.tmp 64) 8 b2 (0) 81 [.int .i64 0, .int .i64 0, (.slice none 0 0)] [.int .i64 (((wholeR l).1.2.1).getD i.toNat 0), .int .i64 ((besK l (((wholeR l).1.2.1).getD i.toNat 0)).getD j.toNat 0), uc] [.int .i64 (((wholeR l).1.2.1).getD i.toNat 0), .int .i64 ((besK l (((wholeR l).1.2.1).getD i.toNat 0)).getD j.toNat 0), uc] (.agg #[.int .i64 (((wholeR l).1.2.1).getD i.toNat 0), .int .i64 ((besK l (((wholeR l).1.2.1).getD i.toNat 0)).getD j.toNat 0), uc]) [(2, pv b2)] hA H rfl rfl (Nat.le_of_ble_eq_true (by kernel_rfl)) rfl (fun v hv => by simp only [List.mem_cons, List.not_mem_nil, or_false] at hv; rcases hv with rfl | rfl | rfl; exact rfl; exact rfl; exact (rd_one (H.get 0 rfl))) fun a w78 H hA hG => ?_
         replace H : Fr _ _ _ [.ro uc ((classesL l ((wholeR l).1.2.1.getD i.toNat 0) ((besK l ((wholeR l).1.2.1.getD i.toNat 0)).getD j.toNat 0)).getD k.toNat []), .ro v59 (classesL l (((wholeR l).1.2.1).getD i.toNat 0) ((besK l (((wholeR l).1.2.1).getD i.toNat 0)).getD j.toNat 0)), .ro v43 (besK l (((wholeR l).1.2.1).getD i.toNat 0)), .box b16 29 [v7a, v7b], .box b14 24 [.int .i64 ((wholeR l).1.1.1), v7e], .ro v7b ((wholeR l).1.2.2), .ro v7a ((wholeR l).1.2.1), .ro v7e ((wholeR l).1.1.2), .box b2 81 [.int .i64 (((wholeR l).1.2.1).getD i.toNat 0), .int .i64 ((besK l (((wholeR l).1.2.1).getD i.toNat 0)).getD j.toNat 0), uc]] := H
         refine q_list 5 1 [] [(2, pv b2), (3, .bool true)] (TT ∧ True) hA H ⟨tv, tv⟩ fun a w79 hA H hG => ?_
         refine list_end ?_
         refine hK76 _ _ ?_
         refine go_ret_ ?_
         refine ret_cell2 2 3 81 8 b2 81 [.int .i64 (((wholeR l).1.2.1).getD i.toNat 0), .int .i64 ((besK l (((wholeR l).1.2.1).getD i.toNat 0)).getD j.toNat 0), uc] #[.int .i64 (((wholeR l).1.2.1).getD i.toNat 0), .int .i64 ((besK l (((wholeR l).1.2.1).getD i.toNat 0)).getD j.toNat 0), uc] (.bool true) hA H rfl ?_ (ht := ⟨_, Try.underlying81⟩)
         exact ⟨_, rfl, first_giv (first_hit hk k0 (by omega) hb75) (H.giveRo 0 rfl), H.below⟩
       have hhb75 := (aF hb75).imp (fun h => of_decide_eq_false h) (fun h => of_decide_eq_false h)
       refine go_skip ?_
       refine hK70 _ _ ?_
       refine q_reg [] [(0, vl), (2, pv b2), (4, pv b14), (5, pv b16), (8, iv (((wholeR l).1.2.1).getD i.toNat 0)), (10, iv ((besK l (((wholeR l).1.2.1).getD i.toNat 0)).getD j.toNat 0)), (33, v7a), (34, iv (((wholeR l).1.2.1).length : Int)), (35, iv i), (42, v43), (43, iv ((besK l (((wholeR l).1.2.1).getD i.toNat 0)).length : Int)), (44, iv j), (51, v59), (52, iv ((classesL l (((wholeR l).1.2.1).getD i.toNat 0) ((besK l (((wholeR l).1.2.1).getD i.toNat 0)).getD j.toNat 0)).length : Int)), (53, iv (k + 1))] ((InR .i64 (k + 1)) ∧ TT ∧ True) hA H ⟨⟨by omega, by omega⟩, tv, tv⟩ fun a w80 hA H hG => ?_
       replace H := H.drop 0
       refine ⟨(k + 1), ⟨env_sub _ hA, ⟨_, H⟩, ?_⟩, ?_⟩
       · (try dsimp only); exact ⟨by omega, by omega, first_c hk k0 (by omega) hb75⟩
       (try dsimp only); omega
     have hhb69 := of_decide_eq_false hb69
     refine go_exit 4 ?_
     refine hK54 _ _ ?_
     refine q_reg [] [(0, vl), (2, pv b2), (4, pv b14), (5, pv b16), (8, iv (((wholeR l).1.2.1).getD i.toNat 0)), (33, v7a), (34, iv (((wholeR l).1.2.1).length : Int)), (35, iv i), (42, v43), (43, iv ((besK l (((wholeR l).1.2.1).getD i.toNat 0)).length : Int)), (44, iv (j + 1))] ((InR .i64 (j + 1)) ∧ TT ∧ True) hA H ⟨⟨by omega, by omega⟩, tv, tv⟩ fun a w81 hA H hG => ?_
     replace H := H.drop 0
     refine ⟨(j + 1), ⟨env_sub _ hA, ⟨_, H⟩, ?_⟩, ?_⟩
     · (try dsimp only); exact ⟨by omega, by omega, first_cend hk (by omega)⟩
     (try dsimp only); omega
   have hhb53 := of_decide_eq_false hb53
   refine go_exit 2 ?_
   refine hK38 _ _ ?_
   refine q_reg [] [(0, vl), (2, pv b2), (4, pv b14), (5, pv b16), (33, v7a), (34, iv (((wholeR l).1.2.1).length : Int)), (35, iv (i + 1))] ((InR .i64 (i + 1)) ∧ TT ∧ True) hA H ⟨⟨by omega, by omega⟩, tv, tv⟩ fun a w82 hA H hG => ?_
   replace H := H.drop 0
   refine ⟨(i + 1), ⟨env_sub _ hA, ⟨_, H⟩, ?_⟩, ?_⟩
   · (try dsimp only); exact ⟨by omega, by omega, first_vend hj (by omega)⟩
   (try dsimp only); omega
 have hhb37 := of_decide_eq_false hb37
 refine go_exit 0 ?_
 refine hK29 _ _ ?_
 refine go_seq fun K83 hK83 => ?_
 refine region_list ?_
 refine q_list 0 1 [(68, .agg #[.int .i64 0, .int .i64 0, (.slice none 0 0)])] [(2, pv b2), (68, .agg #[.int .i64 0, .int .i64 0, (.slice none 0 0)])] ((∀ w, (Instr.build 81 #[]).run Try.prog w = .ok (.agg #[.int .i64 0, .int .i64 0, (.slice none 0 0)]) w) ∧ True) hA H ⟨fun w => by kernel_rfl, tv⟩ fun a w84 hA H hG => ?_
 refine list_at 1 ?_; refine q_store 1 81 (.tmp 2) (.tmp 68) 5 b2 (0) 81 [.int .i64 0, .int .i64 0, (.slice none 0 0)] [.int .i64 0, .int .i64 0, (.slice none 0 0)] [.int .i64 0, .int .i64 0, (.slice none 0 0)] (.agg #[.int .i64 0, .int .i64 0, (.slice none 0 0)]) [(2, pv b2)] hA H rfl rfl (Nat.le_of_ble_eq_true (by kernel_rfl)) rfl (fun v hv => by simp only [List.mem_cons, List.not_mem_nil, or_false] at hv; rcases hv with rfl | rfl | rfl; exact rfl; exact rfl; exact rfl) fun a w85 H hA hG => ?_
 replace H : Fr _ _ _ [.box b16 29 [v7a, v7b], .box b14 24 [.int .i64 ((wholeR l).1.1.1), v7e], .ro v7b ((wholeR l).1.2.2), .ro v7a ((wholeR l).1.2.1), .ro v7e ((wholeR l).1.1.2), .box b2 81 [.int .i64 0, .int .i64 0, (.slice none 0 0)]] := H
 refine q_list 2 1 [] [(2, pv b2), (3, .bool false)] (TT ∧ True) hA H ⟨tv, tv⟩ fun a w86 hA H hG => ?_
 refine list_end ?_
 refine hK83 _ _ ?_
 refine go_ret_ ?_
 refine ret_cell2 2 3 81 5 b2 81 [.int .i64 0, .int .i64 0, (.slice none 0 0)] #[.int .i64 0, .int .i64 0, (.slice none 0 0)] (.bool false) hA H rfl ?_ (ht := ⟨_, Try.underlying81⟩)
 exact ⟨_, rfl, first_nil (first_uend hi (by omega)), H.below⟩
end Go.Proofs.Ytahonnlgkmimlaa
namespace Go.Proofs.Ytahonnlgkmimlaa
open Go.RowKit
def offL (l : List Lk) (sd : List Int) (i : Int) : List Lk := ((upto i).filter fun j => hasB sd j).map fun j => l.getD j.toNat (0, (0, 0))
def restL (l : List Lk) (sd : List Int) (i : Int) : List Lk := ((upto i).filter fun j => !hasB sd j).map fun j => l.getD j.toNat (0, (0, 0))
def cutOk (l : List Lk) (x y : Int) (sd : List Int) (id : Int) : Bool := !((((!(pclassesE l x y).any fun c => decide (c = sd)) || !willB l (sd.length : Int)) || decide (0 ≤ id)) || l.any fun b => decide (b.2.2 = id))
def cutA (l : List Lk) (x y : Int) (sd : List Int) (id : Int) : List Lk := if cutOk l x y sd id = true then offL l sd (l.length : Int) ++ [(x, (y, id))] else []
def cutB (l : List Lk) (x y : Int) (sd : List Int) (id : Int) : List Lk := if cutOk l x y sd id = true then restL l sd (l.length : Int) ++ [(x, (y, id))] else []
theorem offL_yes {l : List Lk} {sd : List Int} {i : Int} (h0 : 0 ≤ i) (h : hasB sd i = true) : offL l sd (i + 1) = offL l sd i ++ [l.getD i.toNat (0, (0, 0))] := by
 unfold offL; rw [upto_succ h0, List.filter_append, List.filter_cons, if_pos h, List.map_append]; rfl
theorem offL_no {l : List Lk} {sd : List Int} {i : Int} (h0 : 0 ≤ i) (h : hasB sd i = false) : offL l sd (i + 1) = offL l sd i := by
 unfold offL; rw [upto_succ h0, List.filter_append, List.filter_cons, if_neg (by rw [h]; decide), List.filter_nil, List.append_nil]
theorem restL_yes {l : List Lk} {sd : List Int} {i : Int} (h0 : 0 ≤ i) (h : hasB sd i = true) : restL l sd (i + 1) = restL l sd i := by
 unfold restL; rw [upto_succ h0, List.filter_append, List.filter_cons, if_neg (by rw [h]; decide), List.filter_nil, List.append_nil]
theorem restL_no {l : List Lk} {sd : List Int} {i : Int} (h0 : 0 ≤ i) (h : hasB sd i = false) : restL l sd (i + 1) = restL l sd i ++ [l.getD i.toNat (0, (0, 0))] := by
 unfold restL; rw [upto_succ h0, List.filter_append, List.filter_cons, if_pos (by rw [h]; rfl), List.map_append]; rfl
theorem cut_givF {l : List Lk} {x y id : Int} {sd : List Int} {S : Stab} {w : World} (h : ((((!(pclassesE l x y).any fun c => decide (c = sd)) || !willB l (sd.length : Int)) || decide (0 ≤ id)) || l.any fun b => decide (b.2.2 = id)) = true) :
   ∃ a b, (Value.tuple #[.slice none 0 0, .slice none 0 0, .bool false]) = .tuple #[a, b, .bool (cutOk l x y sd id)] ∧ Rd S w a (cutA l x y sd id) ∧ Rd S w b (cutB l x y sd id) := by
 have e : cutOk l x y sd id = false := by unfold cutOk; rw [h]; rfl
 unfold cutA cutB; rw [e]; exact ⟨_, _, rfl, rd_nil, rd_nil⟩
theorem cut_givT {l : List Lk} {x y id : Int} {sd : List Int} {S : Stab} {w : World} {a b : Value} (h : ((((!(pclassesE l x y).any fun c => decide (c = sd)) || !willB l (sd.length : Int)) || decide (0 ≤ id)) || l.any fun b => decide (b.2.2 = id)) = false)
   (ha : Rd S w a (offL l sd (l.length : Int) ++ [(x, (y, id))])) (hb : Rd S w b (restL l sd (l.length : Int) ++ [(x, (y, id))])) :
   ∃ a' b', (Value.tuple #[a, b, .bool true]) = .tuple #[a', b', .bool (cutOk l x y sd id)] ∧ Rd S w a' (cutA l x y sd id) ∧ Rd S w b' (cutB l x y sd id) := by
 have e : cutOk l x y sd id = true := by unfold cutOk; rw [h]; rfl
 unfold cutA cutB; rw [e]; exact ⟨_, _, rfl, ha, hb⟩
theorem pclasses_len (l : List Lk) (x y : Int) : (pclassesE l x y).length ≤ l.length := by
 unfold pclassesE; split
 · simp
 exact classes_len l x y
theorem idxlist_any (f : Nat) (cs : List Value) (p : List Int → Bool) (vl : Value) (l : List (List Int)) (o : Orig) (S : Stab) (tl : List Res) (w : World) (hH : Fr o w S (.ro vl l :: tl)) (hl : l.length ≤ 1000000) (hf : Callable Try.prog f) (hp : ∀ (x : Value) (b : List Int) (w' : World) (S' : Stab), b ∈ l → Fr o w' S' (.ro x b :: .ro vl l :: tl) → Calls Try.prog f ([x] ++ cs).toArray w' (fun e w2 => ∃ q, e = .returned q ∧ (q = .bool (p b) ∧ ∃ S2, Fr o w2 S2 (.ro x b :: .ro vl l :: tl)))) :
 Calls Try.prog 115 [vl, (.func (.func f) #[] cs.toArray)].toArray w (fun e w' => ∃ q, e = .returned q ∧ (q = .int .i64 (idxP p l) ∧ ∃ S', Fr o w' S' (.ro vl l :: tl))) := by
 refine enter Try.f115 19 Try.func115 fun a hA => ?_
 replace hA := env_sub [(0, vl), (1, (.func (.func f) #[] cs.toArray))] hA
 have H := hH
 refine go_seq fun K1 hK1 => ?_
 refine q_reg [] [(0, vl), (1, (.func (.func f) #[] cs.toArray))] (TT ∧ True) hA H ⟨tv, tv⟩ fun a w2 hA H hG => ?_
 refine hK1 _ _ ?_
 refine go_seq fun K3 hK3 => ?_
 refine go_seq fun K4 hK4 => ?_
 refine q_reg [(7, iv (l.length : Int))] [(0, vl), (1, (.func (.func f) #[] cs.toArray)), (7, iv (l.length : Int)), (8, iv 0)] (TT ∧ (LenOk vl (l.length : Int)) ∧ TT ∧ True) hA H ⟨tv, by exact len_ok (H.get 0 rfl), tv, tv⟩ fun a w5 hA H hG => ?_
 refine hK4 _ _ ?_
 refine go_block 0 ?_
 refine go_loop_ (Int) (fun x_ a W => (fun (i : Int) => EnvOk 19 a (keepEnv [(0, vl), (1, (.func (.func f) #[] cs.toArray)), (7, iv (l.length : Int)), (8, iv i)]) ∧ (∃ S, Fr o W S (.ro vl l :: tl)) ∧ 0 ≤ i ∧ i ≤ (l.length : Int) ∧ ∀ j : Nat, (j : Int) < i → p (l.getD j []) = false) x_) (fun x_ => (fun (i : Int) => ((l.length : Int) - i).toNat) x_) (0) ?_ (fun i a w7 hI => ?_)
 · (try dsimp only); exact ⟨env_sub _ hA, ⟨_, H⟩, by omega, by omega, fun j hj => by omega⟩
 obtain ⟨hA, ⟨S, H⟩, h0, h0b, hi⟩ := hI
 try dsimp only at h0 h0b hi
 refine go_seq fun K8 hK8 => ?_
 refine q_reg [] [(0, vl), (1, (.func (.func f) #[] cs.toArray)), (7, iv (l.length : Int)), (8, iv i), (9, .bool (decide (i < (l.length : Int))))] (TT ∧ True) hA H ⟨tv, tv⟩ fun a w9 hA H hG => ?_
 refine hK8 _ _ ?_
 refine go_seq fun K10 hK10 => ?_
 refine go_cond hA (.tmp 9) (decide (i < (l.length : Int))) (fun hb11 => ?_) (fun hb11 => ?_)
 · have hhb11 := of_decide_eq_true hb11
   refine go_skip ?_
   refine hK10 _ _ ?_
   refine go_seq fun K12 hK12 => ?_
   refine go_block 1 ?_
   refine go_seq fun K13 hK13 => ?_
   refine q_reg [] [(0, vl), (1, (.func (.func f) #[] cs.toArray)), (5, iv i), (7, iv (l.length : Int)), (8, iv i)] (TT ∧ TT ∧ True) hA H ⟨tv, tv, tv⟩ fun a w14 hA H hG => ?_
   refine hK13 _ _ ?_
   refine go_seq fun K15 hK15 => ?_
   obtain ⟨uc, huc, hur⟩ := cell_sliceC (C := On w14) H.keepsS (H.getS 0 rfl) i
   have hur := hur h0 (by omega)
   replace H := H.ro hur
   replace H : Fr _ _ _ (.ro uc (l.getD i.toNat []) :: .ro vl l :: tl) := H
   refine region_list ?_
   refine q_list 0 5 [(15, uc)] [(0, vl), (1, (.func (.func f) #[] cs.toArray)), (5, iv i), (7, iv (l.length : Int)), (8, iv i), (11, (.func (.func f) #[] cs.toArray)), (15, uc)] (TT ∧ TT ∧ TT ∧ ((Try.prog.info? 27).isSome = true ∧ IdxOk vl i) ∧ (CellOk (On w14) (hdB vl) (hdO vl + i.toNat * 1) uc) ∧ True) hA H ⟨tv, tv, tv, ⟨by kernel_rfl, by exact idx_ok (H.get 1 rfl) (by omega) (by omega)⟩, by exact huc h0 (by omega), tv⟩ fun a w16 hA H hG => ?_
   refine list_at 5 ?_; refine q_anyC 5 16 (.tmp 11) f #[.tmp 15] #[27] [uc] [] cs (fun u_ w_ => u_ = .bool (p (l.getD i.toNat [])) ∧ ∃ S_, Fr o w_ S_ (.ro uc (l.getD i.toNat []) :: .ro vl l :: tl)) [(0, vl), (1, (.func (.func f) #[] cs.toArray)), (5, iv i), (7, iv (l.length : Int)), (8, iv i)] hA hf (by exact hp uc _ _ _ (getD_mem (by omega)) H) fun v17 a w18 hR19 hA => ?_
   obtain ⟨rfl, S, H⟩ := hR19
   refine list_end ?_
   refine hK15 _ _ ?_
   refine go_cond hA (.tmp 16) (p (l.getD i.toNat [])) (fun hb20 => ?_) (fun hb20 => ?_)
   · have hhb20 := hb20
     refine go_seq fun K21 hK21 => ?_
     refine q_reg [] [(4, iv i)] (TT ∧ TT ∧ True) hA H ⟨tv, tv, tv⟩ fun a w22 hA H hG => ?_
     refine hK21 _ _ ?_
     refine go_ret_ ?_
     refine ret_one (P := Try.prog) (fn := Try.f115) (R := (fun e w' => ∃ q, e = .returned q ∧ (q = .int .i64 (idxP p l) ∧ ∃ S', Fr o w' S' (.ro vl l :: tl)))) 4 (.int .i64 i) hA ?_
     replace H := H.drop 0
     exact ⟨_, rfl, by rw [idxP_some [] (i := i.toNat) (by omega) hhb20 (fun j hj => hi j (by omega)), Int.toNat_of_nonneg h0], _, H⟩
   have hhb20 := hb20
   refine go_skip ?_
   refine hK12 _ _ ?_
   refine q_reg [] [(0, vl), (1, (.func (.func f) #[] cs.toArray)), (7, iv (l.length : Int)), (8, iv (i + 1))] ((InR .i64 (i + 1)) ∧ TT ∧ True) hA H ⟨⟨by omega, by omega⟩, tv, tv⟩ fun a w23 hA H hG => ?_
   replace H := H.drop 0
   refine ⟨(i + 1), ⟨env_sub _ hA, ⟨_, H⟩, ?_⟩, ?_⟩
   · (try dsimp only); exact ⟨by omega, by omega, fun j hj => if q : (j : Int) = i then (by rw [show j = i.toNat by omega]; exact hhb20) else hi j (by omega)⟩
   (try dsimp only); omega
 have hhb11 := of_decide_eq_false hb11
 refine go_exit 0 ?_
 refine hK3 _ _ ?_
 refine go_seq fun K24 hK24 => ?_
 refine q_reg [] [(4, iv (-1))] (TT ∧ True) hA H ⟨tv, tv⟩ fun a w25 hA H hG => ?_
 refine hK24 _ _ ?_
 refine go_ret_ ?_
 refine ret_one (P := Try.prog) (fn := Try.f115) (R := (fun e w' => ∃ q, e = .returned q ∧ (q = .int .i64 (idxP p l) ∧ ∃ S', Fr o w' S' (.ro vl l :: tl)))) 4 (.int .i64 (-1)) hA ?_
 exact ⟨_, rfl, by rw [idxP_none [] (fun j hj => hi j (by omega))], _, H⟩
theorem contlist_any (f : Nat) (cs : List Value) (p : List Int → Bool) (vl : Value) (l : List (List Int)) (o : Orig) (S : Stab) (tl : List Res) (w : World) (hH : Fr o w S (.ro vl l :: tl)) (hl : l.length ≤ 1000000) (hf : Callable Try.prog f) (hp : ∀ (x : Value) (b : List Int) (w' : World) (S' : Stab), b ∈ l → Fr o w' S' (.ro x b :: .ro vl l :: tl) → Calls Try.prog f ([x] ++ cs).toArray w' (fun e w2 => ∃ q, e = .returned q ∧ (q = .bool (p b) ∧ ∃ S2, Fr o w2 S2 (.ro x b :: .ro vl l :: tl)))) :
 Calls Try.prog 94 [vl, (.func (.func f) #[] cs.toArray)].toArray w (fun e w' => ∃ q, e = .returned q ∧ (q = .bool (l.any p) ∧ ∃ S', Fr o w' S' (.ro vl l :: tl))) := by
 refine enter Try.f94 9 Try.func94 fun a hA => ?_
 replace hA := env_sub [(0, vl), (1, (.func (.func f) #[] cs.toArray))] hA
 have H := hH
 refine go_seq fun K1 hK1 => ?_
 refine q_reg [] [(0, vl), (1, (.func (.func f) #[] cs.toArray))] (TT ∧ True) hA H ⟨tv, tv⟩ fun a w2 hA H hG => ?_
 refine hK1 _ _ ?_
 refine go_seq fun K3 hK3 => ?_
 refine region_list ?_
 refine q_list 0 2 [] [(5, vl), (6, (.func (.func f) #[] cs.toArray))] (TT ∧ TT ∧ True) hA H ⟨tv, tv, tv⟩ fun a w4 hA H hG => ?_
 refine list_at 2 ?_; refine q_any 2 7 115 #[.tmp 5, .tmp 6] #[67, 119] [vl, (.func (.func f) #[] cs.toArray)] _ [] hA (idxlist_any f cs p vl l o _ tl _ H (by omega) hf hp) fun v5 a w6 hR7 hA => ?_
 obtain ⟨rfl, S, H⟩ := hR7
 refine q_list 3 2 [] [(4, .bool (decide ((0 : Int) ≤ (idxP p l))))] (TT ∧ TT ∧ True) hA H ⟨tv, tv, tv⟩ fun a w8 hA H hG => ?_
 refine list_end ?_
 refine hK3 _ _ ?_
 refine go_ret_ ?_
 refine ret_one (P := Try.prog) (fn := Try.f94) (R := (fun e w' => ∃ q, e = .returned q ∧ (q = .bool (l.any p) ∧ ∃ S', Fr o w' S' (.ro vl l :: tl)))) 4 (.bool (decide ((0 : Int) ≤ (idxP p l)))) hA ?_
 exact ⟨_, rfl, by rw [idxP_any], _, H⟩
theorem idxlk_any (f : Nat) (cs : List Value) (p : Int × Int × Int → Bool) (vl : Value) (l : List (Int × Int × Int)) (o : Orig) (S : Stab) (tl : List Res) (w : World) (hH : Fr o w S tl) (hL : Rd (· < o.w.heap.size) o.w vl l) (hl : l.length ≤ 1000000) (hf : Callable Try.prog f) (hp : ∀ (b : Int × Int × Int) (w' : World) (S' : Stab), b ∈ l → Fr o w' S' tl → Calls Try.prog f ([Value.agg #[.int .i64 b.1, .int .i64 b.2.1, .int .i64 b.2.2]] ++ cs).toArray w' (fun e w2 => ∃ q, e = .returned q ∧ (q = .bool (p b) ∧ ∃ S2, Fr o w2 S2 tl))) :
 Calls Try.prog 116 [vl, (.func (.func f) #[] cs.toArray)].toArray w (fun e w' => ∃ q, e = .returned q ∧ (q = .int .i64 (idxP p l) ∧ ∃ S', Fr o w' S' tl)) := by
 refine enter Try.f116 19 Try.func116 fun a hA => ?_
 replace hA := env_sub [(0, vl), (1, (.func (.func f) #[] cs.toArray))] hA
 have H := hH
 refine go_seq fun K1 hK1 => ?_
 refine q_reg [] [(0, vl), (1, (.func (.func f) #[] cs.toArray))] (TT ∧ True) hA H ⟨tv, tv⟩ fun a w2 hA H hG => ?_
 refine hK1 _ _ ?_
 refine go_seq fun K3 hK3 => ?_
 refine go_seq fun K4 hK4 => ?_
 refine q_reg [(7, iv (l.length : Int))] [(0, vl), (1, (.func (.func f) #[] cs.toArray)), (7, iv (l.length : Int)), (8, iv 0)] (TT ∧ (LenOk vl (l.length : Int)) ∧ TT ∧ True) hA H ⟨tv, by exact len_ok (H.arg hL), tv, tv⟩ fun a w5 hA H hG => ?_
 refine hK4 _ _ ?_
 refine go_block 0 ?_
 refine go_loop_ (Int) (fun x_ a W => (fun (i : Int) => EnvOk 19 a (keepEnv [(0, vl), (1, (.func (.func f) #[] cs.toArray)), (7, iv (l.length : Int)), (8, iv i)]) ∧ (∃ S, Fr o W S (tl)) ∧ 0 ≤ i ∧ i ≤ (l.length : Int) ∧ ∀ j : Nat, (j : Int) < i → p (l.getD j (0, (0, 0))) = false) x_) (fun x_ => (fun (i : Int) => ((l.length : Int) - i).toNat) x_) (0) ?_ (fun i a w7 hI => ?_)
 · (try dsimp only); exact ⟨env_sub _ hA, ⟨_, H⟩, by omega, by omega, fun j hj => by omega⟩
 obtain ⟨hA, ⟨S, H⟩, h0, h0b, hi⟩ := hI
 try dsimp only at h0 h0b hi
 refine go_seq fun K8 hK8 => ?_
 refine q_reg [] [(0, vl), (1, (.func (.func f) #[] cs.toArray)), (7, iv (l.length : Int)), (8, iv i), (9, .bool (decide (i < (l.length : Int))))] (TT ∧ True) hA H ⟨tv, tv⟩ fun a w9 hA H hG => ?_
 refine hK8 _ _ ?_
 refine go_seq fun K10 hK10 => ?_
 refine go_cond hA (.tmp 9) (decide (i < (l.length : Int))) (fun hb11 => ?_) (fun hb11 => ?_)
 · have hhb11 := of_decide_eq_true hb11
   refine go_skip ?_
   refine hK10 _ _ ?_
   refine go_seq fun K12 hK12 => ?_
   refine go_block 1 ?_
   refine go_seq fun K13 hK13 => ?_
   refine q_reg [] [(0, vl), (1, (.func (.func f) #[] cs.toArray)), (5, iv i), (7, iv (l.length : Int)), (8, iv i)] (TT ∧ TT ∧ True) hA H ⟨tv, tv, tv⟩ fun a w14 hA H hG => ?_
   refine hK13 _ _ ?_
   refine go_seq fun K15 hK15 => ?_
   refine region_list ?_
   refine q_list 0 5 [(15, .agg #[.int .i64 ((l.getD i.toNat (0, (0, 0))).1), .int .i64 (((l.getD i.toNat (0, (0, 0))).2).1), .int .i64 (((l.getD i.toNat (0, (0, 0))).2).2)])] [(0, vl), (1, (.func (.func f) #[] cs.toArray)), (5, iv i), (7, iv (l.length : Int)), (8, iv i), (11, (.func (.func f) #[] cs.toArray)), (15, .agg #[.int .i64 ((l.getD i.toNat (0, (0, 0))).1), .int .i64 (((l.getD i.toNat (0, (0, 0))).2).1), .int .i64 (((l.getD i.toNat (0, (0, 0))).2).2)])] (TT ∧ TT ∧ TT ∧ ((Try.prog.info? 92).isSome = true ∧ IdxOk vl i) ∧ ((Try.prog.info? 92).isSome = true ∧ RowOk (On w14) (hdB vl) (hdO vl + i.toNat * 3) (Try.prog.cellsOf 92) #[.int .i64 ((l.getD i.toNat (0, (0, 0))).1), .int .i64 (((l.getD i.toNat (0, (0, 0))).2).1), .int .i64 (((l.getD i.toNat (0, (0, 0))).2).2)]) ∧ True) hA H ⟨tv, tv, tv, ⟨by kernel_rfl, by exact idx_ok (H.arg hL) (by omega) (by omega)⟩, ⟨by kernel_rfl, by exact row_flat (i := i) (H.arg hL) (by omega) (by omega) (0, (0, 0))⟩, tv⟩ fun a w16 hA H hG => ?_
   refine list_at 5 ?_; refine q_anyC 5 16 (.tmp 11) f #[.tmp 15] #[92] [.agg #[.int .i64 ((l.getD i.toNat (0, (0, 0))).1), .int .i64 (((l.getD i.toNat (0, (0, 0))).2).1), .int .i64 (((l.getD i.toNat (0, (0, 0))).2).2)]] [] cs (fun u_ w_ => u_ = .bool (p (l.getD i.toNat (0, (0, 0)))) ∧ ∃ S_, Fr o w_ S_ (tl)) [(0, vl), (1, (.func (.func f) #[] cs.toArray)), (5, iv i), (7, iv (l.length : Int)), (8, iv i)] hA hf (by exact hp (l.getD i.toNat (0, (0, 0))) _ _ (getD_mem (by omega)) H) fun v17 a w18 hR19 hA => ?_
   obtain ⟨rfl, S, H⟩ := hR19
   refine list_end ?_
   refine hK15 _ _ ?_
   refine go_cond hA (.tmp 16) (p (l.getD i.toNat (0, (0, 0)))) (fun hb20 => ?_) (fun hb20 => ?_)
   · have hhb20 := hb20
     refine go_seq fun K21 hK21 => ?_
     refine q_reg [] [(4, iv i)] (TT ∧ TT ∧ True) hA H ⟨tv, tv, tv⟩ fun a w22 hA H hG => ?_
     refine hK21 _ _ ?_
     refine go_ret_ ?_
     refine ret_one (P := Try.prog) (fn := Try.f116) (R := (fun e w' => ∃ q, e = .returned q ∧ (q = .int .i64 (idxP p l) ∧ ∃ S', Fr o w' S' tl))) 4 (.int .i64 i) hA ?_
     exact ⟨_, rfl, by rw [idxP_some (0, (0, 0)) (i := i.toNat) (by omega) hhb20 (fun j hj => hi j (by omega)), Int.toNat_of_nonneg h0], _, H⟩
   have hhb20 := hb20
   refine go_skip ?_
   refine hK12 _ _ ?_
   refine q_reg [] [(0, vl), (1, (.func (.func f) #[] cs.toArray)), (7, iv (l.length : Int)), (8, iv (i + 1))] ((InR .i64 (i + 1)) ∧ TT ∧ True) hA H ⟨⟨by omega, by omega⟩, tv, tv⟩ fun a w23 hA H hG => ?_
   refine ⟨(i + 1), ⟨env_sub _ hA, ⟨_, H⟩, ?_⟩, ?_⟩
   · (try dsimp only); exact ⟨by omega, by omega, fun j hj => if q : (j : Int) = i then (by rw [show j = i.toNat by omega]; exact hhb20) else hi j (by omega)⟩
   (try dsimp only); omega
 have hhb11 := of_decide_eq_false hb11
 refine go_exit 0 ?_
 refine hK3 _ _ ?_
 refine go_seq fun K24 hK24 => ?_
 refine q_reg [] [(4, iv (-1))] (TT ∧ True) hA H ⟨tv, tv⟩ fun a w25 hA H hG => ?_
 refine hK24 _ _ ?_
 refine go_ret_ ?_
 refine ret_one (P := Try.prog) (fn := Try.f116) (R := (fun e w' => ∃ q, e = .returned q ∧ (q = .int .i64 (idxP p l) ∧ ∃ S', Fr o w' S' tl))) 4 (.int .i64 (-1)) hA ?_
 exact ⟨_, rfl, by rw [idxP_none (0, (0, 0)) (fun j hj => hi j (by omega))], _, H⟩
theorem contlk_any (f : Nat) (cs : List Value) (p : Int × Int × Int → Bool) (vl : Value) (l : List (Int × Int × Int)) (o : Orig) (S : Stab) (tl : List Res) (w : World) (hH : Fr o w S tl) (hL : Rd (· < o.w.heap.size) o.w vl l) (hl : l.length ≤ 1000000) (hf : Callable Try.prog f) (hp : ∀ (b : Int × Int × Int) (w' : World) (S' : Stab), b ∈ l → Fr o w' S' tl → Calls Try.prog f ([Value.agg #[.int .i64 b.1, .int .i64 b.2.1, .int .i64 b.2.2]] ++ cs).toArray w' (fun e w2 => ∃ q, e = .returned q ∧ (q = .bool (p b) ∧ ∃ S2, Fr o w2 S2 tl))) :
 Calls Try.prog 96 [vl, (.func (.func f) #[] cs.toArray)].toArray w (fun e w' => ∃ q, e = .returned q ∧ (q = .bool (l.any p) ∧ ∃ S', Fr o w' S' tl)) := by
 refine enter Try.f96 9 Try.func96 fun a hA => ?_
 replace hA := env_sub [(0, vl), (1, (.func (.func f) #[] cs.toArray))] hA
 have H := hH
 refine go_seq fun K1 hK1 => ?_
 refine q_reg [] [(0, vl), (1, (.func (.func f) #[] cs.toArray))] (TT ∧ True) hA H ⟨tv, tv⟩ fun a w2 hA H hG => ?_
 refine hK1 _ _ ?_
 refine go_seq fun K3 hK3 => ?_
 refine region_list ?_
 refine q_list 0 2 [] [(5, vl), (6, (.func (.func f) #[] cs.toArray))] (TT ∧ TT ∧ True) hA H ⟨tv, tv, tv⟩ fun a w4 hA H hG => ?_
 refine list_at 2 ?_; refine q_any 2 7 116 #[.tmp 5, .tmp 6] #[69, 121] [vl, (.func (.func f) #[] cs.toArray)] _ [] hA (idxlk_any f cs p vl l o _ tl _ H hL (by omega) hf hp) fun v5 a w6 hR7 hA => ?_
 obtain ⟨rfl, S, H⟩ := hR7
 refine q_list 3 2 [] [(4, .bool (decide ((0 : Int) ≤ (idxP p l))))] (TT ∧ TT ∧ True) hA H ⟨tv, tv, tv⟩ fun a w8 hA H hG => ?_
 refine list_end ?_
 refine hK3 _ _ ?_
 refine go_ret_ ?_
 refine ret_one (P := Try.prog) (fn := Try.f96) (R := (fun e w' => ∃ q, e = .returned q ∧ (q = .bool (l.any p) ∧ ∃ S', Fr o w' S' tl))) 4 (.bool (decide ((0 : Int) ≤ (idxP p l)))) hA ?_
 exact ⟨_, rfl, by rw [idxP_any], _, H⟩
theorem cut1_any (b4 : Nat) (x y : Int) (sv : Value) (sd : List Int) (xv : Value) (b : List Int) (o : Orig) (S : Stab) (tl : List Res) (w : World) (hH : Fr o w S (.box b4 81 [.int .i64 x, .int .i64 y, sv] :: .ro xv b :: tl)) (hS : Rd (· < o.w.heap.size) o.w sv sd) :
 Calls Try.prog 95 [xv, .pointer (some ⟨b4, 0, none⟩)].toArray w (fun e w' => ∃ q, e = .returned q ∧ (q = .bool (decide (b = sd)) ∧ ∃ S', Fr o w' S' (.box b4 81 [.int .i64 x, .int .i64 y, sv] :: .ro xv b :: tl))) := by
 refine enter Try.f95 8 Try.func95 fun a hA => ?_
 replace hA := env_sub [(0, xv), (1, pv b4)] hA
 have H := hH
 refine go_seq fun K1 hK1 => ?_
 refine q_reg [] [(0, xv), (1, pv b4)] (TT ∧ True) hA H ⟨tv, tv⟩ fun a w2 hA H hG => ?_
 refine hK1 _ _ ?_
 refine go_seq fun K3 hK3 => ?_
 refine q_reg [(6, sv), (7, .bool (decide (b = sd)))] [(3, .bool (decide (b = sd)))] (TT ∧ (0 < Try.prog.cellsOf 27) ∧ (CellOk (On w2) b4 (0 + 2) (sv)) ∧ (Callable Try.prog 76 ∧ CallOk Try.prog (On w2) 76 [xv, sv].toArray (.bool (decide (b = sd)))) ∧ TT ∧ True) hA H ⟨tv, by decide +kernel, by exact box_cell H 0 rfl 2, ⟨callable_of, callOk_of fun w hw => by exact equal_any xv sv b sd w (((H.on hw).get 1 rfl)) (((H.on hw).arg hS))⟩, tv, tv⟩ fun a w4 hA H hG => ?_
 refine hK3 _ _ ?_
 refine go_ret_ ?_
 refine ret_one (P := Try.prog) (fn := Try.f95) (R := (fun e w' => ∃ q, e = .returned q ∧ (q = .bool (decide (b = sd)) ∧ ∃ S', Fr o w' S' (.box b4 81 [.int .i64 x, .int .i64 y, sv] :: .ro xv b :: tl)))) 3 (.bool (decide (b = sd))) hA ?_
 exact ⟨_, rfl, rfl, _, H⟩
theorem cut2_any (b5 : Nat) (id : Int) (b : Int × Int × Int) (o : Orig) (S : Stab) (tl : List Res) (w : World) (hH : Fr o w S (.box b5 3 [.int .i64 id] :: tl)) :
 Calls Try.prog 97 [.agg #[.int .i64 b.1, .int .i64 b.2.1, .int .i64 b.2.2], .pointer (some ⟨b5, 0, none⟩)].toArray w (fun e w' => ∃ q, e = .returned q ∧ (q = .bool (decide (b.2.2 = id)) ∧ ∃ S', Fr o w' S' (.box b5 3 [.int .i64 id] :: tl))) := by
 refine enter Try.f97 8 Try.func97 fun a hA => ?_
 replace hA := env_sub [(0, .agg #[.int .i64 b.1, .int .i64 b.2.1, .int .i64 b.2.2]), (1, pv b5)] hA
 have H := hH
 refine go_seq fun K1 hK1 => ?_
 refine region_list ?_
 refine list_at 0 ?_; refine q_box 0 2 92 (.tmp 0) (.agg #[.int .i64 b.1, .int .i64 b.2.1, .int .i64 b.2.2]) [.int .i64 b.1, .int .i64 b.2.1, .int .i64 b.2.2] [(1, pv b5)] hA H fun b2 a w3 H hA hG hge_b2 => ?_
 clear hge_b2
 refine q_list 1 1 [] [(1, pv b5), (2, pv b2)] (TT ∧ True) hA H ⟨tv, tv⟩ fun a w4 hA H hG => ?_
 refine list_end ?_
 refine hK1 _ _ ?_
 refine go_seq fun K5 hK5 => ?_
 refine q_reg [(5, iv b.2.2), (6, iv id)] [(3, .bool (decide (b.2.2 = id)))] ((0 < Try.prog.cellsOf 3) ∧ (CellOk (On w4) b2 (0 + 2) (.int .i64 b.2.2)) ∧ (CellOk (On w4) b5 (0) (.int .i64 id)) ∧ TT ∧ TT ∧ True) hA H ⟨by decide +kernel, by exact box_cell H 0 rfl 2, by exact box_cell H 1 rfl 0, tv, tv, tv⟩ fun a w6 hA H hG => ?_
 refine hK5 _ _ ?_
 refine go_ret_ ?_
 refine ret_one (P := Try.prog) (fn := Try.f97) (R := (fun e w' => ∃ q, e = .returned q ∧ (q = .bool (decide (b.2.2 = id)) ∧ ∃ S', Fr o w' S' (.box b5 3 [.int .i64 id] :: tl)))) 3 (.bool (decide (b.2.2 = id))) hA ?_
 replace H := H.drop 0
 exact ⟨_, rfl, rfl, _, H⟩
theorem cut_any (vl : Value) (l : List (Int × Int × Int)) (x y : Int) (sv : Value) (sd : List Int) (id : Int) (o : Orig) (hL : Rd (· < o.w.heap.size) o.w vl l) (hs : l.length ≤ 100000) (hS : Rd (· < o.w.heap.size) o.w sv sd) (hs2 : sd.length ≤ 100000) (hwf : WfL l) (hx : -9223372036854775808 ≤ x ∧ x ≤ 9223372036854775807) (hy : -9223372036854775808 ≤ y ∧ y ≤ 9223372036854775807) (hid : -9223372036854775808 ≤ id ∧ id ≤ 9223372036854775807) :
 Calls Try.prog 68 [vl, .agg #[.int .i64 x, .int .i64 y, sv], .int .i64 id].toArray o.w (Giv o (fun S v w' => ∃ a b, v = .tuple #[a, b, .bool (cutOk l x y sd id)] ∧ Rd S w' a (cutA l x y sd id) ∧ Rd S w' b (cutB l x y sd id))) := by
 have hpl := pclasses_len l x y
 refine enter Try.f68 78 Try.func68 fun a hA => ?_
 replace hA := env_sub [(0, vl), (1, .agg #[.int .i64 x, .int .i64 y, sv]), (2, iv id)] hA
 have H := Fr.start o
 refine go_seq fun K1 hK1 => ?_
 refine region_list ?_
 refine list_at 0 ?_; refine q_box 0 4 81 (.tmp 1) (.agg #[.int .i64 x, .int .i64 y, sv]) [.int .i64 x, .int .i64 y, sv] [(0, vl), (2, iv id)] hA H fun b2 a w3 H hA hG hge_b2 => ?_
 clear hge_b2
 refine list_at 1 ?_; refine q_box 1 5 3 (.tmp 2) (.int .i64 id) [.int .i64 id] [(0, vl), (4, pv b2)] hA H fun b4 a w5 H hA hG hge_b4 => ?_
 clear hge_b4
 refine q_list 2 3 [] [(0, vl), (4, pv b2), (5, pv b4)] (TT ∧ TT ∧ TT ∧ True) hA H ⟨tv, tv, tv, tv⟩ fun a w6 hA H hG => ?_
 refine list_end ?_
 refine hK1 _ _ ?_
 refine go_seq fun K7 hK7 => ?_
 refine region_list ?_
 refine q_list 0 5 [(18, iv x), (20, iv y)] [(0, vl), (4, pv b2), (5, pv b4), (16, vl), (18, iv x), (20, iv y)] (TT ∧ (0 < Try.prog.cellsOf 3) ∧ (CellOk (On w6) b2 (0 + 0) (.int .i64 x)) ∧ (0 < Try.prog.cellsOf 3) ∧ (CellOk (On w6) b2 (0 + 1) (.int .i64 y)) ∧ True) hA H ⟨tv, by decide +kernel, by exact box_cell H 1 rfl 0, by decide +kernel, by exact box_cell H 1 rfl 1, tv⟩ fun a w8 hA H hG => ?_
 refine list_at 5 ?_; refine q_call 5 21 56 #[.tmp 16, .tmp 18, .tmp 20] #[69, 3, 3] [vl, .int .i64 x, .int .i64 y] (fun S v_ w' => Rd S w' v_ ((pclassesE l x y))) [(0, vl), (4, pv b2), (5, pv b4)] hA H (by exact pclasses_any vl l x y H.at ((H.arg hL)) (by omega) hwf (by omega) (by omega)) fun v9 a w10 S hR11 H hA hG => ?_
 replace H := H.ro hR11
 refine list_at 6 ?_; refine q_funcN 6 22 95 [.tmp 4] [.pointer (some ⟨b2, 0, none⟩)] [(0, vl), (4, pv b2), (5, pv b4), (21, v9)] hA fun a hA => ?_
 replace H := Fr.order [.ro v9 (pclassesE l x y), .box b4 3 [.int .i64 id], .box b2 81 [.int .i64 x, .int .i64 y, sv]] [] H [0, 2, 1] (by show List.Perm _ (List.range 3); decide)
 replace H : Fr _ _ _ [.ro v9 (pclassesE l x y), .box b2 81 [.int .i64 x, .int .i64 y, sv], .box b4 3 [.int .i64 id]] := H
 refine list_at 7 ?_; refine q_any 7 23 94 #[.tmp 21, .tmp 22] #[67, 119] [v9, .func (.func 95) #[] #[.pointer (some ⟨b2, 0, none⟩)]] _ [(0, vl), (4, pv b2), (5, pv b4)] hA (contlist_any 95 [.pointer (some ⟨b2, 0, none⟩)] (fun c => decide (c = sd)) v9 (pclassesE l x y) o _ [.box b2 81 [.int .i64 x, .int .i64 y, sv], .box b4 3 [.int .i64 id]] _ H (by omega) callable_of (fun x9 b9 w' S' hb H' => (cut1_any b2 x y sv sd x9 b9 o S' (.ro v9 (pclassesE l x y) :: [.box b4 3 [.int .i64 id]]) w' (H'.sink 2 1) hS).mono fun e w2 ⟨q, he, hq, S2, H2⟩ => ⟨q, he, hq, S2, H2.sink 1 2⟩)) fun v13 a w14 hR15 hA => ?_
 obtain ⟨rfl, S, H⟩ := hR15
 refine q_list 8 1 [] [(0, vl), (4, pv b2), (5, pv b4), (9, .bool ((pclassesE l x y).any (fun c => decide (c = sd))))] (TT ∧ True) hA H ⟨tv, tv⟩ fun a w16 hA H hG => ?_
 refine list_end ?_
 refine hK7 _ _ ?_
 refine go_seq fun K17 hK17 => ?_
 refine region_list ?_
 refine q_list 0 1 [] [(0, vl), (4, pv b2), (5, pv b4), (9, .bool ((pclassesE l x y).any (fun c => decide (c = sd)))), (24, vl)] (TT ∧ True) hA H ⟨tv, tv⟩ fun a w18 hA H hG => ?_
 refine list_at 1 ?_; refine q_funcN 1 25 97 [.tmp 5] [.pointer (some ⟨b4, 0, none⟩)] [(0, vl), (4, pv b2), (5, pv b4), (9, .bool ((pclassesE l x y).any (fun c => decide (c = sd)))), (24, vl)] hA fun a hA => ?_
 replace H := Fr.order [.ro v9 (pclassesE l x y), .box b2 81 [.int .i64 x, .int .i64 y, sv], .box b4 3 [.int .i64 id]] [] H [2, 0, 1] (by show List.Perm _ (List.range 3); decide)
 replace H : Fr _ _ _ [.box b4 3 [.int .i64 id], .ro v9 (pclassesE l x y), .box b2 81 [.int .i64 x, .int .i64 y, sv]] := H
 refine list_at 2 ?_; refine q_any 2 26 96 #[.tmp 24, .tmp 25] #[69, 121] [vl, .func (.func 97) #[] #[.pointer (some ⟨b4, 0, none⟩)]] _ [(0, vl), (4, pv b2), (5, pv b4), (9, .bool ((pclassesE l x y).any (fun c => decide (c = sd))))] hA (contlk_any 97 [.pointer (some ⟨b4, 0, none⟩)] (fun b => decide (b.2.2 = id)) vl l o _ [.box b4 3 [.int .i64 id], .ro v9 (pclassesE l x y), .box b2 81 [.int .i64 x, .int .i64 y, sv]] _ H hL (by omega) callable_of (fun b9 w' S' hb H' => cut2_any b4 id b9 o S' [.ro v9 (pclassesE l x y), .box b2 81 [.int .i64 x, .int .i64 y, sv]] w' H')) fun v19 a w20 hR21 hA => ?_
 obtain ⟨rfl, S, H⟩ := hR21
 refine q_list 3 1 [] [(0, vl), (4, pv b2), (5, pv b4), (9, .bool ((pclassesE l x y).any (fun c => decide (c = sd)))), (10, .bool (l.any (fun b => decide (b.2.2 = id))))] (TT ∧ True) hA H ⟨tv, tv⟩ fun a w22 hA H hG => ?_
 refine list_end ?_
 refine hK17 _ _ ?_
 refine go_seq fun K23 hK23 => ?_
 refine go_seq fun K24 hK24 => ?_
 refine q_reg [(32, sv), (33, iv (sd.length : Int)), (34, .bool (decide (2 ≤ (sd.length : Int)) && decide (2 ≤ (l.length : Int) - (sd.length : Int)))), (38, iv id)] [(0, vl), (4, pv b2), (5, pv b4), (43, .bool ((((!((pclassesE l x y).any (fun c => decide (c = sd)))) || (!(decide (2 ≤ (sd.length : Int)) && decide (2 ≤ (l.length : Int) - (sd.length : Int))))) || (decide ((0 : Int) ≤ id))) || (l.any (fun b => decide (b.2.2 = id)))))] (TT ∧ TT ∧ TT ∧ ((!((pclassesE l x y).any (fun c => decide (c = sd)))) = false → True) ∧ ((!((pclassesE l x y).any (fun c => decide (c = sd)))) = false → 0 < Try.prog.cellsOf 27) ∧ ((!((pclassesE l x y).any (fun c => decide (c = sd)))) = false → CellOk (On w22) b2 (0 + 2) (sv)) ∧ ((!((pclassesE l x y).any (fun c => decide (c = sd)))) = false → LenOk sv (sd.length : Int)) ∧ ((!((pclassesE l x y).any (fun c => decide (c = sd)))) = false → Callable Try.prog 92 ∧ CallOk Try.prog (On w22) 92 [vl, .int .i64 (sd.length : Int)].toArray (.bool (decide (2 ≤ (sd.length : Int)) && decide (2 ≤ (l.length : Int) - (sd.length : Int))))) ∧ ((!((pclassesE l x y).any (fun c => decide (c = sd)))) = false → True) ∧ TT ∧ TT ∧ (((!((pclassesE l x y).any (fun c => decide (c = sd)))) || (!(decide (2 ≤ (sd.length : Int)) && decide (2 ≤ (l.length : Int) - (sd.length : Int))))) = false → CellOk (On w22) b4 (0) (.int .i64 id)) ∧ (((!((pclassesE l x y).any (fun c => decide (c = sd)))) || (!(decide (2 ≤ (sd.length : Int)) && decide (2 ≤ (l.length : Int) - (sd.length : Int))))) = false → True) ∧ TT ∧ TT ∧ ((((!((pclassesE l x y).any (fun c => decide (c = sd)))) || (!(decide (2 ≤ (sd.length : Int)) && decide (2 ≤ (l.length : Int) - (sd.length : Int))))) || (decide ((0 : Int) ≤ id))) = false → True) ∧ TT ∧ True) hA H ⟨tv, tv, tv, fun _ => tv, fun _ => by decide +kernel, fun _ => by exact box_cell H 2 rfl 2, fun _ => by exact len_ok (H.arg hS), fun hg0 => by replace hg0 := (nF hg0); exact ⟨callable_of, callOk_of fun w hw => by exact will_any vl l (sd.length : Int) w (((H.on hw).arg hL)) (by omega) (by omega)⟩, fun _ => tv, tv, tv, fun _ => by exact box_cell H 0 rfl 0, fun _ => tv, tv, tv, fun _ => tv, tv, tv⟩ fun a w25 hA H hG => ?_
 refine hK24 _ _ ?_
 refine go_cond hA (.tmp 43) ((((!((pclassesE l x y).any (fun c => decide (c = sd)))) || (!(decide (2 ≤ (sd.length : Int)) && decide (2 ≤ (l.length : Int) - (sd.length : Int))))) || (decide ((0 : Int) ≤ id))) || (l.any (fun b => decide (b.2.2 = id)))) (fun hb26 => ?_) (fun hb26 => ?_)
 · have hhb26 := (oT hb26).imp (fun h => (oT h).imp (fun h => (oT h).imp (fun h => (nT h)) (fun h => (aF (nT h)).imp (fun h => of_decide_eq_false h) (fun h => of_decide_eq_false h))) (fun h => of_decide_eq_true h)) (fun h => h)
   refine go_seq fun K27 hK27 => ?_
   refine q_reg [] [(6, (.slice none 0 0)), (7, (.slice none 0 0)), (8, .bool false)] (TT ∧ TT ∧ TT ∧ True) hA H ⟨tv, tv, tv, tv⟩ fun a w28 hA H hG => ?_
   refine hK27 _ _ ?_
   refine go_ret_ ?_
   refine ret_three 6 7 8 (.slice none 0 0) (.slice none 0 0) (.bool false) hA ?_
   exact ⟨_, rfl, cut_givF hb26, H.below⟩
 have hhb26 := (⟨(⟨(⟨(nF ((oF ((oF ((oF hb26).1)).1)).1)), (⟨of_decide_eq_true ((aT (nF ((oF ((oF ((oF hb26).1)).1)).2))).1), of_decide_eq_true ((aT (nF ((oF ((oF ((oF hb26).1)).1)).2))).2)⟩ : _ ∧ _)⟩ : _ ∧ _), of_decide_eq_false ((oF ((oF hb26).1)).2)⟩ : _ ∧ _), (oF hb26).2⟩ : _ ∧ _)
 refine go_skip ?_
 refine hK23 _ _ ?_
 refine go_seq fun K29 hK29 => ?_
 refine q_reg [] [(0, vl), (4, pv b2), (5, pv b4), (11, (.slice none 0 0)), (12, (.slice none 0 0))] (TT ∧ TT ∧ True) hA H ⟨tv, tv, tv⟩ fun a w30 hA H hG => ?_
 refine hK29 _ _ ?_
 refine go_seq fun K31 hK31 => ?_
 refine go_seq fun K32 hK32 => ?_
 refine q_reg [(45, iv (l.length : Int))] [(4, pv b2), (5, pv b4), (11, (.slice none 0 0)), (12, (.slice none 0 0)), (44, vl), (45, iv (l.length : Int)), (46, iv 0)] (TT ∧ (LenOk vl (l.length : Int)) ∧ TT ∧ True) hA H ⟨tv, by exact len_ok (H.arg hL), tv, tv⟩ fun a w33 hA H hG => ?_
 refine hK32 _ _ ?_
 refine go_block 0 ?_
 replace H := H.newRow (α := Int × Int × Int) 92
 replace H := H.newRow (α := Int × Int × Int) 92
 refine go_loop_ (Int × Value × List (Int × Int × Int) × Value × List (Int × Int × Int)) (fun x_ a W => (fun (i : Int) (va : Value) (la : List (Int × Int × Int)) (vb : Value) (lb : List (Int × Int × Int)) => EnvOk 78 a (keepEnv [(4, pv b2), (5, pv b4), (11, va), (12, vb), (44, vl), (45, iv (l.length : Int)), (46, iv i)]) ∧ (∃ S, Fr o W S [.row 92 va la, .row 92 vb lb, .box b4 3 [.int .i64 id], .ro v9 (pclassesE l x y), .box b2 81 [.int .i64 x, .int .i64 y, sv]]) ∧ 0 ≤ i ∧ i ≤ (l.length : Int) ∧ (la.length : Int) ≤ i ∧ (lb.length : Int) ≤ i ∧ la = offL l sd i ∧ lb = restL l sd i) x_.1 x_.2.1 x_.2.2.1 x_.2.2.2.1 x_.2.2.2.2) (fun x_ => (fun (i : Int) (va : Value) (la : List (Int × Int × Int)) (vb : Value) (lb : List (Int × Int × Int)) => ((l.length : Int) - i).toNat) x_.1 x_.2.1 x_.2.2.1 x_.2.2.2.1 x_.2.2.2.2) (0, .slice none 0 0, [], .slice none 0 0, []) ?_ (fun x_ a w35 hI => ?_)
 · (try dsimp only); exact ⟨env_sub _ hA, ⟨_, H⟩, by omega, by omega, by simp, by simp, rfl, rfl⟩
 obtain ⟨i, va, la, vb, lb⟩ := x_
 obtain ⟨hA, ⟨S, H⟩, h0, h0b, h1, h2, hi, hj⟩ := hI
 try dsimp only at h0 h0b h1 h2 hi hj
 replace H : Fr _ _ _ [.row 92 va la, .row 92 vb lb, .box b4 3 [.int .i64 id], .ro v9 (pclassesE l x y), .box b2 81 [.int .i64 x, .int .i64 y, sv]] := H
 refine go_seq fun K36 hK36 => ?_
 refine q_reg [] [(4, pv b2), (5, pv b4), (11, va), (12, vb), (44, vl), (45, iv (l.length : Int)), (46, iv i), (47, .bool (decide (i < (l.length : Int))))] (TT ∧ True) hA H ⟨tv, tv⟩ fun a w37 hA H hG => ?_
 refine hK36 _ _ ?_
 refine go_seq fun K38 hK38 => ?_
 refine go_cond hA (.tmp 47) (decide (i < (l.length : Int))) (fun hb39 => ?_) (fun hb39 => ?_)
 · have hhb39 := of_decide_eq_true hb39
   refine go_skip ?_
   refine hK38 _ _ ?_
   refine go_seq fun K40 hK40 => ?_
   refine go_block 1 ?_
   refine go_seq fun K41 hK41 => ?_
   refine region_list ?_
   refine q_list 0 3 [(50, .agg #[.int .i64 ((l.getD i.toNat (0, (0, 0))).1), .int .i64 (((l.getD i.toNat (0, (0, 0))).2).1), .int .i64 (((l.getD i.toNat (0, (0, 0))).2).2)])] [(4, pv b2), (5, pv b4), (11, va), (12, vb), (44, vl), (45, iv (l.length : Int)), (46, iv i), (48, iv i), (50, .agg #[.int .i64 ((l.getD i.toNat (0, (0, 0))).1), .int .i64 (((l.getD i.toNat (0, (0, 0))).2).1), .int .i64 (((l.getD i.toNat (0, (0, 0))).2).2)])] (TT ∧ ((Try.prog.info? 92).isSome = true ∧ IdxOk vl i) ∧ ((Try.prog.info? 92).isSome = true ∧ RowOk (On w37) (hdB vl) (hdO vl + i.toNat * 3) (Try.prog.cellsOf 92) #[.int .i64 ((l.getD i.toNat (0, (0, 0))).1), .int .i64 (((l.getD i.toNat (0, (0, 0))).2).1), .int .i64 (((l.getD i.toNat (0, (0, 0))).2).2)]) ∧ True) hA H ⟨tv, ⟨by kernel_rfl, by exact idx_ok (H.arg hL) (by omega) (by omega)⟩, ⟨by kernel_rfl, by exact row_flat (i := i) (H.arg hL) (by omega) (by omega) (0, (0, 0))⟩, tv⟩ fun a w42 hA H hG => ?_
   refine list_at 3 ?_; refine q_alloc 3 14 92 [.int .i64 0, .int .i64 0, .int .i64 0] [(4, pv b2), (5, pv b4), (11, va), (12, vb), (44, vl), (45, iv (l.length : Int)), (46, iv i), (48, iv i), (50, .agg #[.int .i64 ((l.getD i.toNat (0, (0, 0))).1), .int .i64 (((l.getD i.toNat (0, (0, 0))).2).1), .int .i64 (((l.getD i.toNat (0, (0, 0))).2).2)])] hA H fun b43 a w44 H hA hG hge_b43 => ?_
   clear hge_b43
   refine q_list 4 1 [] [(4, pv b2), (5, pv b4), (11, va), (12, vb), (13, iv i), (14, pv b43), (44, vl), (45, iv (l.length : Int)), (46, iv i), (50, .agg #[.int .i64 ((l.getD i.toNat (0, (0, 0))).1), .int .i64 (((l.getD i.toNat (0, (0, 0))).2).1), .int .i64 (((l.getD i.toNat (0, (0, 0))).2).2)])] (TT ∧ True) hA H ⟨tv, tv⟩ fun a w45 hA H hG => ?_
   refine list_at 5 ?_; refine q_store 5 92 (.tmp 14) (.tmp 50) 0 b43 (0) 92 [.int .i64 0, .int .i64 0, .int .i64 0] [.int .i64 ((l.getD i.toNat (0, (0, 0))).1), .int .i64 (((l.getD i.toNat (0, (0, 0))).2).1), .int .i64 (((l.getD i.toNat (0, (0, 0))).2).2)] [.int .i64 ((l.getD i.toNat (0, (0, 0))).1), .int .i64 (((l.getD i.toNat (0, (0, 0))).2).1), .int .i64 (((l.getD i.toNat (0, (0, 0))).2).2)] (.agg #[.int .i64 ((l.getD i.toNat (0, (0, 0))).1), .int .i64 (((l.getD i.toNat (0, (0, 0))).2).1), .int .i64 (((l.getD i.toNat (0, (0, 0))).2).2)]) [(4, pv b2), (5, pv b4), (11, va), (12, vb), (13, iv i), (14, pv b43), (44, vl), (45, iv (l.length : Int)), (46, iv i)] hA H rfl rfl (Nat.le_of_ble_eq_true (by kernel_rfl)) rfl (fun v hv => by simp only [List.mem_cons, List.not_mem_nil, or_false] at hv; rcases hv with rfl | rfl | rfl; exact rfl; exact rfl; exact rfl) fun a w46 H hA hG => ?_
   replace H : Fr _ _ _ [.box b43 92 [.int .i64 ((l.getD i.toNat (0, (0, 0))).1), .int .i64 (((l.getD i.toNat (0, (0, 0))).2).1), .int .i64 (((l.getD i.toNat (0, (0, 0))).2).2)], .row 92 va la, .row 92 vb lb, .box b4 3 [.int .i64 id], .ro v9 (pclassesE l x y), .box b2 81 [.int .i64 x, .int .i64 y, sv]] := H
   refine list_end ?_
   refine hK41 _ _ ?_
   refine go_seq fun K47 hK47 => ?_
   refine q_reg [(52, sv), (54, .bool (hasB sd i))] [(4, pv b2), (5, pv b4), (11, va), (12, vb), (14, pv b43), (44, vl), (45, iv (l.length : Int)), (46, iv i), (54, .bool (hasB sd i))] ((0 < Try.prog.cellsOf 27) ∧ (CellOk (On w46) b2 (0 + 2) (sv)) ∧ TT ∧ (Callable Try.prog 39 ∧ CallOk Try.prog (On w46) 39 [sv, .int .i64 i].toArray (.bool (hasB sd i))) ∧ True) hA H ⟨by decide +kernel, by exact box_cell H 5 rfl 2, tv, ⟨callable_of, callOk_of fun w hw => by exact has_any sv sd i w (((H.on hw).arg hS)) (by omega)⟩, tv⟩ fun a w48 hA H hG => ?_
   refine hK47 _ _ ?_
   refine go_cond hA (.tmp 54) (hasB sd i) (fun hb49 => ?_) (fun hb49 => ?_)
   · have hhb49 := hb49
     refine region_list ?_
     refine q_list 0 2 [(56, .agg #[.int .i64 ((l.getD i.toNat (0, (0, 0))).1), .int .i64 (((l.getD i.toNat (0, (0, 0))).2).1), .int .i64 (((l.getD i.toNat (0, (0, 0))).2).2)])] [(4, pv b2), (5, pv b4), (12, vb), (44, vl), (45, iv (l.length : Int)), (46, iv i), (55, va), (56, .agg #[.int .i64 ((l.getD i.toNat (0, (0, 0))).1), .int .i64 (((l.getD i.toNat (0, (0, 0))).2).1), .int .i64 (((l.getD i.toNat (0, (0, 0))).2).2)])] (TT ∧ ((Try.prog.info? 92).isSome = true ∧ RowOk (On w48) b43 (0) (Try.prog.cellsOf 92) #[.int .i64 ((l.getD i.toNat (0, (0, 0))).1), .int .i64 (((l.getD i.toNat (0, (0, 0))).2).1), .int .i64 (((l.getD i.toNat (0, (0, 0))).2).2)]) ∧ True) hA H ⟨tv, ⟨by kernel_rfl, by exact box_row H 0 rfl 0 3⟩, tv⟩ fun a w50 hA H hG => ?_
     refine list_at 2 ?_; refine q_lit 2 57 69 1 #[(0, .tmp 56)] 92 [(0, .agg #[.int .i64 ((l.getD i.toNat (0, (0, 0))).1), .int .i64 (((l.getD i.toNat (0, (0, 0))).2).1), .int .i64 (((l.getD i.toNat (0, (0, 0))).2).2)])] [.int .i64 ((l.getD i.toNat (0, (0, 0))).1), .int .i64 (((l.getD i.toNat (0, (0, 0))).2).1), .int .i64 (((l.getD i.toNat (0, (0, 0))).2).2)] [(4, pv b2), (5, pv b4), (12, vb), (44, vl), (45, iv (l.length : Int)), (46, iv i), (55, va)] hA H fun b51 a w52 H hA hG hge_b51 => ?_
     clear hge_b51
     refine list_at 3 ?_; refine q_push 3 58 (.tmp 55) (.tmp 57) 2 0 b51 1 1 va la [((l.getD i.toNat (0, (0, 0))).1, (((l.getD i.toNat (0, (0, 0))).2).1, ((l.getD i.toNat (0, (0, 0))).2).2))] [.int .i64 ((l.getD i.toNat (0, (0, 0))).1), .int .i64 (((l.getD i.toNat (0, (0, 0))).2).1), .int .i64 (((l.getD i.toNat (0, (0, 0))).2).2)] [(4, pv b2), (5, pv b4), (12, vb), (44, vl), (45, iv (l.length : Int)), (46, iv i)] hA H Try.E69 rfl rfl (by exact (RowRd.single (α := Int × Int × Int) ⟨[_], _, rfl, rfl, ⟨[_], _, rfl, rfl, rfl⟩⟩)) rfl (by simp only [List.length_cons, List.length_nil, List.length_append]; omega) (by decide) fun v53 a w54 H hA hG => ?_
     replace H : Fr _ _ _ [.box b43 92 [.int .i64 ((l.getD i.toNat (0, (0, 0))).1), .int .i64 (((l.getD i.toNat (0, (0, 0))).2).1), .int .i64 (((l.getD i.toNat (0, (0, 0))).2).2)], .row 92 v53 (la ++ [((l.getD i.toNat (0, (0, 0))).1, (((l.getD i.toNat (0, (0, 0))).2).1, ((l.getD i.toNat (0, (0, 0))).2).2))]), .row 92 vb lb, .box b4 3 [.int .i64 id], .ro v9 (pclassesE l x y), .box b2 81 [.int .i64 x, .int .i64 y, sv]] := H.drop 0
     refine q_list 4 1 [] [(4, pv b2), (5, pv b4), (11, v53), (12, vb), (44, vl), (45, iv (l.length : Int)), (46, iv i)] (TT ∧ True) hA H ⟨tv, tv⟩ fun a w55 hA H hG => ?_
     refine list_end ?_
     refine hK40 _ _ ?_
     refine q_reg [] [(4, pv b2), (5, pv b4), (11, v53), (12, vb), (44, vl), (45, iv (l.length : Int)), (46, iv (i + 1))] ((InR .i64 (i + 1)) ∧ TT ∧ True) hA H ⟨⟨by omega, by omega⟩, tv, tv⟩ fun a w56 hA H hG => ?_
     replace H := H.drop 0
     refine ⟨(i + 1, v53, la ++ [((l.getD i.toNat (0, (0, 0))).1, (((l.getD i.toNat (0, (0, 0))).2).1, ((l.getD i.toNat (0, (0, 0))).2).2))], vb, lb), ⟨env_sub _ hA, ⟨_, H⟩, ?_⟩, ?_⟩
     · (try dsimp only); exact ⟨by omega, by omega, by (try simp only [List.length_append, List.length_cons, List.length_nil]); omega, by (try simp only [List.length_append, List.length_cons, List.length_nil]); omega, by rw [offL_yes h0 hb49, ← hi], by rw [restL_yes h0 hb49, ← hj]⟩
     (try dsimp only); omega
   have hhb49 := hb49
   refine region_list ?_
   refine q_list 0 2 [(60, .agg #[.int .i64 ((l.getD i.toNat (0, (0, 0))).1), .int .i64 (((l.getD i.toNat (0, (0, 0))).2).1), .int .i64 (((l.getD i.toNat (0, (0, 0))).2).2)])] [(4, pv b2), (5, pv b4), (11, va), (44, vl), (45, iv (l.length : Int)), (46, iv i), (59, vb), (60, .agg #[.int .i64 ((l.getD i.toNat (0, (0, 0))).1), .int .i64 (((l.getD i.toNat (0, (0, 0))).2).1), .int .i64 (((l.getD i.toNat (0, (0, 0))).2).2)])] (TT ∧ ((Try.prog.info? 92).isSome = true ∧ RowOk (On w48) b43 (0) (Try.prog.cellsOf 92) #[.int .i64 ((l.getD i.toNat (0, (0, 0))).1), .int .i64 (((l.getD i.toNat (0, (0, 0))).2).1), .int .i64 (((l.getD i.toNat (0, (0, 0))).2).2)]) ∧ True) hA H ⟨tv, ⟨by kernel_rfl, by exact box_row H 0 rfl 0 3⟩, tv⟩ fun a w57 hA H hG => ?_
   refine list_at 2 ?_; refine q_lit 2 61 69 1 #[(0, .tmp 60)] 92 [(0, .agg #[.int .i64 ((l.getD i.toNat (0, (0, 0))).1), .int .i64 (((l.getD i.toNat (0, (0, 0))).2).1), .int .i64 (((l.getD i.toNat (0, (0, 0))).2).2)])] [.int .i64 ((l.getD i.toNat (0, (0, 0))).1), .int .i64 (((l.getD i.toNat (0, (0, 0))).2).1), .int .i64 (((l.getD i.toNat (0, (0, 0))).2).2)] [(4, pv b2), (5, pv b4), (11, va), (44, vl), (45, iv (l.length : Int)), (46, iv i), (59, vb)] hA H fun b58 a w59 H hA hG hge_b58 => ?_
   clear hge_b58
   refine list_at 3 ?_; refine q_push 3 62 (.tmp 59) (.tmp 61) 3 0 b58 1 1 vb lb [((l.getD i.toNat (0, (0, 0))).1, (((l.getD i.toNat (0, (0, 0))).2).1, ((l.getD i.toNat (0, (0, 0))).2).2))] [.int .i64 ((l.getD i.toNat (0, (0, 0))).1), .int .i64 (((l.getD i.toNat (0, (0, 0))).2).1), .int .i64 (((l.getD i.toNat (0, (0, 0))).2).2)] [(4, pv b2), (5, pv b4), (11, va), (44, vl), (45, iv (l.length : Int)), (46, iv i)] hA H Try.E69 rfl rfl (by exact (RowRd.single (α := Int × Int × Int) ⟨[_], _, rfl, rfl, ⟨[_], _, rfl, rfl, rfl⟩⟩)) rfl (by simp only [List.length_cons, List.length_nil, List.length_append]; omega) (by decide) fun v60 a w61 H hA hG => ?_
   replace H : Fr _ _ _ [.box b43 92 [.int .i64 ((l.getD i.toNat (0, (0, 0))).1), .int .i64 (((l.getD i.toNat (0, (0, 0))).2).1), .int .i64 (((l.getD i.toNat (0, (0, 0))).2).2)], .row 92 va la, .row 92 v60 (lb ++ [((l.getD i.toNat (0, (0, 0))).1, (((l.getD i.toNat (0, (0, 0))).2).1, ((l.getD i.toNat (0, (0, 0))).2).2))]), .box b4 3 [.int .i64 id], .ro v9 (pclassesE l x y), .box b2 81 [.int .i64 x, .int .i64 y, sv]] := H.drop 0
   refine q_list 4 1 [] [(4, pv b2), (5, pv b4), (11, va), (12, v60), (44, vl), (45, iv (l.length : Int)), (46, iv i)] (TT ∧ True) hA H ⟨tv, tv⟩ fun a w62 hA H hG => ?_
   refine list_end ?_
   refine hK40 _ _ ?_
   refine q_reg [] [(4, pv b2), (5, pv b4), (11, va), (12, v60), (44, vl), (45, iv (l.length : Int)), (46, iv (i + 1))] ((InR .i64 (i + 1)) ∧ TT ∧ True) hA H ⟨⟨by omega, by omega⟩, tv, tv⟩ fun a w63 hA H hG => ?_
   replace H := H.drop 0
   refine ⟨(i + 1, va, la, v60, lb ++ [((l.getD i.toNat (0, (0, 0))).1, (((l.getD i.toNat (0, (0, 0))).2).1, ((l.getD i.toNat (0, (0, 0))).2).2))]), ⟨env_sub _ hA, ⟨_, H⟩, ?_⟩, ?_⟩
   · (try dsimp only); exact ⟨by omega, by omega, by (try simp only [List.length_append, List.length_cons, List.length_nil]); omega, by (try simp only [List.length_append, List.length_cons, List.length_nil]); omega, by rw [offL_no h0 hb49, ← hi], by rw [restL_no h0 hb49, ← hj]⟩
   (try dsimp only); omega
 have hhb39 := of_decide_eq_false hb39
 refine go_exit 0 ?_
 refine hK31 _ _ ?_
 refine go_seq fun K64 hK64 => ?_
 refine region_list ?_
 refine q_list 0 6 [(65, iv x), (67, iv y), (68, iv id), (69, .agg #[.int .i64 x, .int .i64 y, .int .i64 id])] [(11, va), (12, vb), (69, .agg #[.int .i64 x, .int .i64 y, .int .i64 id])] ((0 < Try.prog.cellsOf 3) ∧ (CellOk (On w37) b2 (0 + 0) (.int .i64 x)) ∧ (0 < Try.prog.cellsOf 3) ∧ (CellOk (On w37) b2 (0 + 1) (.int .i64 y)) ∧ (CellOk (On w37) b4 (0) (.int .i64 id)) ∧ (∀ w, (Instr.build 92 #[(0, iv x), (1, iv y), (2, iv id)]).run Try.prog w = .ok (.agg #[.int .i64 x, .int .i64 y, .int .i64 id]) w) ∧ True) hA H ⟨by decide +kernel, by exact box_cell H 4 rfl 0, by decide +kernel, by exact box_cell H 4 rfl 1, by exact box_cell H 2 rfl 0, fun w => by kernel_rfl, tv⟩ fun a w65 hA H hG => ?_
 refine list_at 6 ?_; refine q_alloc 6 15 92 [.int .i64 0, .int .i64 0, .int .i64 0] [(11, va), (12, vb), (69, .agg #[.int .i64 x, .int .i64 y, .int .i64 id])] hA H fun b66 a w67 H hA hG hge_b66 => ?_
 clear hge_b66
 refine list_at 7 ?_; refine q_store 7 92 (.tmp 15) (.tmp 69) 0 b66 (0) 92 [.int .i64 0, .int .i64 0, .int .i64 0] [.int .i64 x, .int .i64 y, .int .i64 id] [.int .i64 x, .int .i64 y, .int .i64 id] (.agg #[.int .i64 x, .int .i64 y, .int .i64 id]) [(11, va), (12, vb), (15, pv b66)] hA H rfl rfl (Nat.le_of_ble_eq_true (by kernel_rfl)) rfl (fun v hv => by simp only [List.mem_cons, List.not_mem_nil, or_false] at hv; rcases hv with rfl | rfl | rfl; exact rfl; exact rfl; exact rfl) fun a w68 H hA hG => ?_
 replace H : Fr _ _ _ [.box b66 92 [.int .i64 x, .int .i64 y, .int .i64 id], .row 92 va la, .row 92 vb lb, .box b4 3 [.int .i64 id], .ro v9 (pclassesE l x y), .box b2 81 [.int .i64 x, .int .i64 y, sv]] := H
 refine list_end ?_
 refine hK64 _ _ ?_
 refine go_seq fun K69 hK69 => ?_
 have H0 := H
 have hM0 := H0.keepsL (va.ownBlock.toList ++ vb.ownBlock.toList) (by intro b_ hb_; simp only [List.mem_append, Option.mem_toList, Option.mem_def] at hb_; rcases hb_ with hb_ | hb_; all_goals first | exact Fr.in_ 1 rfl hb_ | exact Fr.in_ 2 rfl hb_)
 refine region_mix (ButL w68 (va.ownBlock.toList ++ vb.ownBlock.toList)) [0, 1, 2, 3, 4, 5, 6, 7, 8] 11 ?_
 replace H := H.drawn; have hD := ButL.drew w68 (va.ownBlock.toList ++ vb.ownBlock.toList)
 generalize ({ w68 with drawn := w68.drawn + 1 } : World) = w70 at H hD ⊢
 refine m_take (n := 7) [0, 1, 4, 5] #[true, true, false, false, true, true, false, false, false, false, false] [(71, .agg #[.int .i64 x, .int .i64 y, .int .i64 id]), (75, .agg #[.int .i64 x, .int .i64 y, .int .i64 id])] [(70, va), (71, .agg #[.int .i64 x, .int .i64 y, .int .i64 id]), (74, vb), (75, .agg #[.int .i64 x, .int .i64 y, .int .i64 id])] (TT ∧ ((Try.prog.info? 92).isSome = true ∧ RowOk (ButL w68 (va.ownBlock.toList ++ vb.ownBlock.toList)) b66 (0) (Try.prog.cellsOf 92) #[.int .i64 x, .int .i64 y, .int .i64 id]) ∧ TT ∧ ((Try.prog.info? 92).isSome = true ∧ RowOk (ButL w68 (va.ownBlock.toList ++ vb.ownBlock.toList)) b66 (0) (Try.prog.cellsOf 92) #[.int .i64 x, .int .i64 y, .int .i64 id]) ∧ True) hA hD ⟨tv, ⟨by kernel_rfl, by exact box_rowC (box_atL H0 (va.ownBlock.toList ++ vb.ownBlock.toList) 0 rfl (by intro hq; simp only [List.mem_append, Option.mem_toList, Option.mem_def] at hq; rcases hq with hq | hq; all_goals first | exact H0.apart 0 1 (by decide) rfl rfl rfl hq | exact H0.apart 0 2 (by decide) rfl rfl rfl hq)) 0 3⟩, tv, ⟨by kernel_rfl, by exact box_rowC (box_atL H0 (va.ownBlock.toList ++ vb.ownBlock.toList) 0 rfl (by intro hq; simp only [List.mem_append, Option.mem_toList, Option.mem_def] at hq; rcases hq with hq | hq; all_goals first | exact H0.apart 0 1 (by decide) rfl rfl rfl hq | exact H0.apart 0 2 (by decide) rfl rfl rfl hq)) 0 3⟩, tv⟩ fun a hA => ?_
 refine mix_gen fun M hM => ?_
 have hM87 : ∀ (a : Act) (w94 : World) (S : Stab) (b71 : Nat) (hge_b71 : w68.heap.size ≤ b71) (v75 : Value) (b81 : Nat) (hge_b81 : w68.heap.size ≤ b81) (v85 : Value), EnvOk 78 a (keepEnv [(6, v75), (77, v85)]) → Fr o w94 S [.box b66 92 [.int .i64 x, .int .i64 y, .int .i64 id], .row 92 v75 (la ++ [(x, (y, id))]), .row 92 v85 (lb ++ [(x, (y, id))]), .box b4 3 [.int .i64 id], .ro v9 (pclassesE l x y), .box b2 81 [.int .i64 x, .int .i64 y, sv]] → ButL w68 (va.ownBlock.toList ++ vb.ownBlock.toList) w94 → M 2 #[true, true, true, true, true, true, true, true, true, false, false] a w94 := by
   intro a w94 S b71 hge_b71 v75 b81 hge_b81 v85 hA H hD
   refine (hM _ _ _ _).2 ?_
   refine m_one 9 ?_; refine q_one 9 [] [(6, v75), (7, v85)] (TT ∧ True) hA H ⟨tv, tv⟩ fun a w95 H hA hG => ?_
   refine ⟨fun h => absurd h (by decide), ?_⟩
   refine m_one 10 ?_; refine q_one 10 [] [(6, v75), (7, v85), (8, .bool true)] (TT ∧ True) hA H ⟨tv, tv⟩ fun a w96 H hA hG => ?_
   refine ⟨fun h => absurd h (by decide), ?_⟩
   refine m_end ?_
   refine hK69 _ _ ?_
   refine go_ret_ ?_
   refine ret_three 6 7 8 v75 v85 (.bool true) hA ?_
   have h9a := (H.give 1 rfl); have h9b := (H.give 2 rfl)
   rw [show i = (l.length : Int) by omega] at hi hj; rw [hi] at h9a; rw [hj] at h9b
   exact ⟨_, rfl, cut_givT hb26 h9a h9b, H.below⟩
 have hM88 : ∀ (a : Act) (w97 : World) (S : Stab) (b71 : Nat) (hge_b71 : w68.heap.size ≤ b71) (v75 : Value) (b81 : Nat) (hge_b81 : w68.heap.size ≤ b81), EnvOk 78 a (keepEnv [(73, v75), (74, vb), (76, (.slice (some ⟨b81, 0, none⟩) 1 1))]) → Fr o w97 S [.box b81 92 [.int .i64 x, .int .i64 y, .int .i64 id], .box b66 92 [.int .i64 x, .int .i64 y, .int .i64 id], .row 92 v75 (la ++ [(x, (y, id))]), .row 92 vb lb, .box b4 3 [.int .i64 id], .ro v9 (pclassesE l x y), .box b2 81 [.int .i64 x, .int .i64 y, sv]] → ButL w68 (va.ownBlock.toList ++ vb.ownBlock.toList) w97 → M 4 #[true, true, true, true, true, true, true, false, false, false, false] a w97 := by
   intro a w97 S b71 hge_b71 v75 b81 hge_b81 hA H hD
   refine (hM _ _ _ _).2 ?_
   refine m_one 7 ?_; refine q_push 7 77 (.tmp 74) (.tmp 76) 3 0 b81 1 1 vb lb [(x, (y, id))] [.int .i64 x, .int .i64 y, .int .i64 id] [(73, v75)] hA H Try.E69 rfl rfl (by exact (RowRd.single (α := Int × Int × Int) ⟨[_], _, rfl, rfl, ⟨[_], _, rfl, rfl, rfl⟩⟩)) rfl (by simp only [List.length_cons, List.length_nil, List.length_append]; omega) (by decide) fun v98 a w99 H hA hG => ?_
   replace H : Fr _ _ _ [.box b66 92 [.int .i64 x, .int .i64 y, .int .i64 id], .row 92 v75 (la ++ [(x, (y, id))]), .row 92 v98 (lb ++ [(x, (y, id))]), .box b4 3 [.int .i64 id], .ro v9 (pclassesE l x y), .box b2 81 [.int .i64 x, .int .i64 y, sv]] := H.drop 0
   replace hD := hD.grown hG (fun b_ hb_ => .inl (by simp only [List.mem_append, Option.mem_toList, Option.mem_def]; first | exact .inl hb_ | exact .inr hb_))
   refine ⟨fun _ => hD, ?_⟩
   refine m_take (n := 2) [8] #[true, true, true, true, true, true, true, true, true, false, false] [] [(6, v75), (77, v98)] (TT ∧ True) hA hD ⟨tv, tv⟩ fun a hA => ?_
   exact (hM _ _ _ _).1 (hM87 _ _ _ b71 hge_b71 v75 b81 hge_b81 v98 (env_sub _ hA) H hD)
 have hM89 : ∀ (a : Act) (w100 : World) (S : Stab) (b71 : Nat) (hge_b71 : w68.heap.size ≤ b71) (v75 : Value), EnvOk 78 a (keepEnv [(73, v75), (74, vb), (75, .agg #[.int .i64 x, .int .i64 y, .int .i64 id])]) → Fr o w100 S [.box b66 92 [.int .i64 x, .int .i64 y, .int .i64 id], .row 92 v75 (la ++ [(x, (y, id))]), .row 92 vb lb, .box b4 3 [.int .i64 id], .ro v9 (pclassesE l x y), .box b2 81 [.int .i64 x, .int .i64 y, sv]] → ButL w68 (va.ownBlock.toList ++ vb.ownBlock.toList) w100 → M 5 #[true, true, true, true, true, true, false, false, false, false, false] a w100 := by
   intro a w100 S b71 hge_b71 v75 hA H hD
   refine (hM _ _ _ _).2 ?_
   refine m_one 6 ?_; refine q_lit 6 76 69 1 #[(0, .tmp 75)] 92 [(0, .agg #[.int .i64 x, .int .i64 y, .int .i64 id])] [.int .i64 x, .int .i64 y, .int .i64 id] [(73, v75), (74, vb)] hA H fun b101 a w102 H hA hG hge_b101 => ?_
   replace hge_b101 := Nat.le_trans hD.1 hge_b101
   replace hD := hD.below hG
   refine ⟨fun _ => hD, ?_⟩
   exact (hM _ _ _ _).1 (hM88 _ _ _ b71 hge_b71 v75 b101 hge_b101 (env_sub _ hA) H hD)
 have hM90 : ∀ (a : Act) (w103 : World) (S : Stab) (b71 : Nat) (hge_b71 : w68.heap.size ≤ b71) (b77 : Nat) (hge_b77 : w68.heap.size ≤ b77), EnvOk 78 a (keepEnv [(70, va), (72, (.slice (some ⟨b71, 0, none⟩) 1 1)), (74, vb), (76, (.slice (some ⟨b77, 0, none⟩) 1 1))]) → Fr o w103 S [.box b77 92 [.int .i64 x, .int .i64 y, .int .i64 id], .box b71 92 [.int .i64 x, .int .i64 y, .int .i64 id], .box b66 92 [.int .i64 x, .int .i64 y, .int .i64 id], .row 92 va la, .row 92 vb lb, .box b4 3 [.int .i64 id], .ro v9 (pclassesE l x y), .box b2 81 [.int .i64 x, .int .i64 y, sv]] → ButL w68 (va.ownBlock.toList ++ vb.ownBlock.toList) w103 → M 5 #[true, true, true, false, true, true, true, false, false, false, false] a w103 := by
   intro a w103 S b71 hge_b71 b77 hge_b77 hA H hD
   refine (hM _ _ _ _).2 ?_
   refine m_one 3 ?_; refine q_push 3 73 (.tmp 70) (.tmp 72) 3 1 b71 1 1 va la [(x, (y, id))] [.int .i64 x, .int .i64 y, .int .i64 id] [(74, vb), (76, (.slice (some ⟨b77, 0, none⟩) 1 1))] hA H Try.E69 rfl rfl (by exact (RowRd.single (α := Int × Int × Int) ⟨[_], _, rfl, rfl, ⟨[_], _, rfl, rfl, rfl⟩⟩)) rfl (by simp only [List.length_cons, List.length_nil, List.length_append]; omega) (by decide) fun v104 a w105 H hA hG => ?_
   replace H : Fr _ _ _ [.box b77 92 [.int .i64 x, .int .i64 y, .int .i64 id], .box b66 92 [.int .i64 x, .int .i64 y, .int .i64 id], .row 92 v104 (la ++ [(x, (y, id))]), .row 92 vb lb, .box b4 3 [.int .i64 id], .ro v9 (pclassesE l x y), .box b2 81 [.int .i64 x, .int .i64 y, sv]] := H.drop 1
   replace hD := hD.grown hG (fun b_ hb_ => .inl (by simp only [List.mem_append, Option.mem_toList, Option.mem_def]; first | exact .inl hb_ | exact .inr hb_))
   refine ⟨fun _ => hD, ?_⟩
   exact (hM _ _ _ _).1 (hM88 _ _ _ b71 hge_b71 v104 b77 hge_b77 (env_sub _ hA) H hD)
 have hM91 : ∀ (a : Act) (w106 : World) (S : Stab) (b71 : Nat) (hge_b71 : w68.heap.size ≤ b71), EnvOk 78 a (keepEnv [(70, va), (72, (.slice (some ⟨b71, 0, none⟩) 1 1)), (74, vb), (75, .agg #[.int .i64 x, .int .i64 y, .int .i64 id])]) → Fr o w106 S [.box b71 92 [.int .i64 x, .int .i64 y, .int .i64 id], .box b66 92 [.int .i64 x, .int .i64 y, .int .i64 id], .row 92 va la, .row 92 vb lb, .box b4 3 [.int .i64 id], .ro v9 (pclassesE l x y), .box b2 81 [.int .i64 x, .int .i64 y, sv]] → ButL w68 (va.ownBlock.toList ++ vb.ownBlock.toList) w106 → M 6 #[true, true, true, false, true, true, false, false, false, false, false] a w106 := by
   intro a w106 S b71 hge_b71 hA H hD
   refine (hM _ _ _ _).2 ?_
   refine m_many [3, 6] fun i_ hi_ => ?_
   simp only [List.mem_cons, List.not_mem_nil, or_false] at hi_
   rcases hi_ with rfl | rfl
   · skip
     refine q_push 3 73 (.tmp 70) (.tmp 72) 2 0 b71 1 1 va la [(x, (y, id))] [.int .i64 x, .int .i64 y, .int .i64 id] [(74, vb), (75, .agg #[.int .i64 x, .int .i64 y, .int .i64 id])] hA H Try.E69 rfl rfl (by exact (RowRd.single (α := Int × Int × Int) ⟨[_], _, rfl, rfl, ⟨[_], _, rfl, rfl, rfl⟩⟩)) rfl (by simp only [List.length_cons, List.length_nil, List.length_append]; omega) (by decide) fun v107 a w108 H hA hG => ?_
     replace H : Fr _ _ _ [.box b66 92 [.int .i64 x, .int .i64 y, .int .i64 id], .row 92 v107 (la ++ [(x, (y, id))]), .row 92 vb lb, .box b4 3 [.int .i64 id], .ro v9 (pclassesE l x y), .box b2 81 [.int .i64 x, .int .i64 y, sv]] := H.drop 0
     replace hD := hD.grown hG (fun b_ hb_ => .inl (by simp only [List.mem_append, Option.mem_toList, Option.mem_def]; first | exact .inl hb_ | exact .inr hb_))
     refine ⟨fun _ => hD, ?_⟩
     exact (hM _ _ _ _).1 (hM89 _ _ _ b71 hge_b71 v107 (env_sub _ hA) H hD)
   skip
   refine q_lit 6 76 69 1 #[(0, .tmp 75)] 92 [(0, .agg #[.int .i64 x, .int .i64 y, .int .i64 id])] [.int .i64 x, .int .i64 y, .int .i64 id] [(70, va), (72, (.slice (some ⟨b71, 0, none⟩) 1 1)), (74, vb)] hA H fun b109 a w110 H hA hG hge_b109 => ?_
   replace hge_b109 := Nat.le_trans hD.1 hge_b109
   replace hD := hD.below hG
   refine ⟨fun _ => hD, ?_⟩
   exact (hM _ _ _ _).1 (hM90 _ _ _ b71 hge_b71 b109 hge_b109 (env_sub _ hA) H hD)
 have hM92 : ∀ (a : Act) (w111 : World) (S : Stab) (b73 : Nat) (hge_b73 : w68.heap.size ≤ b73), EnvOk 78 a (keepEnv [(70, va), (71, .agg #[.int .i64 x, .int .i64 y, .int .i64 id]), (74, vb), (76, (.slice (some ⟨b73, 0, none⟩) 1 1))]) → Fr o w111 S [.box b73 92 [.int .i64 x, .int .i64 y, .int .i64 id], .box b66 92 [.int .i64 x, .int .i64 y, .int .i64 id], .row 92 va la, .row 92 vb lb, .box b4 3 [.int .i64 id], .ro v9 (pclassesE l x y), .box b2 81 [.int .i64 x, .int .i64 y, sv]] → ButL w68 (va.ownBlock.toList ++ vb.ownBlock.toList) w111 → M 6 #[true, true, false, false, true, true, true, false, false, false, false] a w111 := by
   intro a w111 S b73 hge_b73 hA H hD
   refine (hM _ _ _ _).2 ?_
   refine m_one 2 ?_; refine q_lit 2 72 69 1 #[(0, .tmp 71)] 92 [(0, .agg #[.int .i64 x, .int .i64 y, .int .i64 id])] [.int .i64 x, .int .i64 y, .int .i64 id] [(70, va), (74, vb), (76, (.slice (some ⟨b73, 0, none⟩) 1 1))] hA H fun b112 a w113 H hA hG hge_b112 => ?_
   replace hge_b112 := Nat.le_trans hD.1 hge_b112
   replace H : Fr _ _ _ [.box b73 92 [.int .i64 x, .int .i64 y, .int .i64 id], .box b112 92 [.int .i64 x, .int .i64 y, .int .i64 id], .box b66 92 [.int .i64 x, .int .i64 y, .int .i64 id], .row 92 va la, .row 92 vb lb, .box b4 3 [.int .i64 id], .ro v9 (pclassesE l x y), .box b2 81 [.int .i64 x, .int .i64 y, sv]] := H.sink 1 1
   replace hD := hD.below hG
   refine ⟨fun _ => hD, ?_⟩
   exact (hM _ _ _ _).1 (hM90 _ _ _ b112 hge_b112 b73 hge_b73 (env_sub _ hA) H hD)
 have hM93 : ∀ (a : Act) (w114 : World) (S : Stab), EnvOk 78 a (keepEnv [(70, va), (71, .agg #[.int .i64 x, .int .i64 y, .int .i64 id]), (74, vb), (75, .agg #[.int .i64 x, .int .i64 y, .int .i64 id])]) → Fr o w114 S [.box b66 92 [.int .i64 x, .int .i64 y, .int .i64 id], .row 92 va la, .row 92 vb lb, .box b4 3 [.int .i64 id], .ro v9 (pclassesE l x y), .box b2 81 [.int .i64 x, .int .i64 y, sv]] → ButL w68 (va.ownBlock.toList ++ vb.ownBlock.toList) w114 → M 7 #[true, true, false, false, true, true, false, false, false, false, false] a w114 := by
   intro a w114 S  hA H hD
   refine (hM _ _ _ _).2 ?_
   refine m_many [2, 6] fun i_ hi_ => ?_
   simp only [List.mem_cons, List.not_mem_nil, or_false] at hi_
   rcases hi_ with rfl | rfl
   · skip
     refine q_lit 2 72 69 1 #[(0, .tmp 71)] 92 [(0, .agg #[.int .i64 x, .int .i64 y, .int .i64 id])] [.int .i64 x, .int .i64 y, .int .i64 id] [(70, va), (74, vb), (75, .agg #[.int .i64 x, .int .i64 y, .int .i64 id])] hA H fun b115 a w116 H hA hG hge_b115 => ?_
     replace hge_b115 := Nat.le_trans hD.1 hge_b115
     replace hD := hD.below hG
     refine ⟨fun _ => hD, ?_⟩
     exact (hM _ _ _ _).1 (hM91 _ _ _ b115 hge_b115 (env_sub _ hA) H hD)
   skip
   refine q_lit 6 76 69 1 #[(0, .tmp 75)] 92 [(0, .agg #[.int .i64 x, .int .i64 y, .int .i64 id])] [.int .i64 x, .int .i64 y, .int .i64 id] [(70, va), (71, .agg #[.int .i64 x, .int .i64 y, .int .i64 id]), (74, vb)] hA H fun b117 a w118 H hA hG hge_b117 => ?_
   replace hge_b117 := Nat.le_trans hD.1 hge_b117
   replace hD := hD.below hG
   refine ⟨fun _ => hD, ?_⟩
   exact (hM _ _ _ _).1 (hM92 _ _ _ b117 hge_b117 (env_sub _ hA) H hD)
 exact hM93 _ _ _ (env_sub _ hA) H hD
def touchK (a b : Lk) (u v : Int) : Prop := (a.1 ≠ u ∧ a.1 ≠ v ∧ (a.1 = b.1 ∨ a.1 = b.2.1)) ∨ (a.2.1 ≠ u ∧ a.2.1 ≠ v ∧ (a.2.1 = b.1 ∨ a.2.1 = b.2.1))
instance (a b : Lk) (u v : Int) : Decidable (touchK a b u v) := by unfold touchK; infer_instance
abbrev lkAt (l : List Lk) (i : Int) : Lk := l.getD i.toNat (0, (0, 0))
def endP (l : List Lk) (i w : Int) : Prop := lkA l i = w ∨ lkB l i = w
theorem touch_iff {l : List Lk} {i j u v : Int} : touchK (lkAt l i) (lkAt l j) u v ↔ ∃ w, w ≠ u ∧ w ≠ v ∧ endP l i w ∧ endP l j w := by
 unfold touchK endP lkA lkB lkAt
 constructor
 · rintro (⟨h1, h2, h3⟩ | ⟨h1, h2, h3⟩)
   · exact ⟨_, h1, h2, .inl rfl, h3.imp Eq.symm Eq.symm⟩
   exact ⟨_, h1, h2, .inr rfl, h3.imp Eq.symm Eq.symm⟩
 rintro ⟨w, h1, h2, h3 | h3, h4⟩
 · subst h3; exact .inl ⟨h1, h2, h4.imp Eq.symm Eq.symm⟩
 subst h3; exact .inr ⟨h1, h2, h4.imp Eq.symm Eq.symm⟩
theorem touch_symm {l : List Lk} {i j u v : Int} (h : touchK (lkAt l i) (lkAt l j) u v) : touchK (lkAt l j) (lkAt l i) u v := by
 obtain ⟨w, h1, h2, h3, h4⟩ := touch_iff.1 h; exact touch_iff.2 ⟨w, h1, h2, h4, h3⟩
inductive Cn (l : List Lk) (u v : Int) : Int → Int → Prop
 | refl (i : Int) : Cn l u v i i
 | link {i j : Int} : 0 ≤ i → i < (l.length : Int) → 0 ≤ j → j < (l.length : Int) → touchK (lkAt l i) (lkAt l j) u v → Cn l u v i j
 | symm {i j : Int} : Cn l u v i j → Cn l u v j i
 | trans {i j k : Int} : Cn l u v i j → Cn l u v j k → Cn l u v i k
theorem joinR_eq {R : Int → Int} {x y : Int} : joinR R x y x = joinR R x y y := by unfold joinR; split <;> split <;> omega
theorem joinR_con {R : Int → Int} {x y a b : Int} (h : R a = R b) : joinR R x y a = joinR R x y b := by unfold joinR; rw [h]
theorem joinR_cases {R : Int → Int} {x y a b : Int} (h : joinR R x y a = joinR R x y b) : R a = R b ∨ ((R a = R x ∨ R a = R y) ∧ (R b = R x ∨ R b = R y)) := by
 unfold joinR at h
 split at h <;> split at h <;> omega
structure Cl9 (l : List Lk) (u v : Int) (D : Int → Int → Prop) (s : ClS) : Prop where
 sound : ∀ a b, s.1 a = s.1 b → Cn l u v a b
 fst : ∀ w f, s.2 w = some f → 0 ≤ f ∧ f < (l.length : Int) ∧ endP l f w ∧ w ≠ u ∧ w ≠ v
 done : ∀ k w, D k w → w ≠ u → w ≠ v → ∃ f, s.2 w = some f ∧ s.1 k = s.1 f
theorem cl9_step {l : List Lk} {u v i w : Int} {D : Int → Int → Prop} {s : ClS} (h : Cl9 l u v D s) (h0 : 0 ≤ i) (h1 : i < (l.length : Int)) (he : endP l i w) : Cl9 l u v (fun k z => D k z ∨ (k = i ∧ z = w)) (clStep u v i w s) := by
 unfold clStep
 split
 · rename_i q
   refine ⟨h.sound, h.fst, fun k z hd hu hv => ?_⟩
   rcases hd with hd | ⟨rfl, rfl⟩
   · exact h.done k z hd hu hv
   rcases q with q | q
   · exact (hu q).elim
   exact (hv q).elim
 rename_i q
 split
 · rename_i f hf
   obtain ⟨f0, f1, f2, f3, f4⟩ := h.fst w f hf
   have ht : Cn l u v f i := .link f0 f1 h0 h1 (touch_iff.2 ⟨w, f3, f4, f2, he⟩)
   refine ⟨fun a b hab => ?_, h.fst, fun k z hd hu hv => ?_⟩
   · rcases joinR_cases hab with e | ⟨e1, e2⟩
     · exact h.sound a b e
     have c1 : Cn l u v a f := by
       rcases e1 with e | e
       · exact h.sound a f e
       exact (h.sound a i e).trans ht.symm
     have c2 : Cn l u v b f := by
       rcases e2 with e | e
       · exact h.sound b f e
       exact (h.sound b i e).trans ht.symm
     exact c1.trans c2.symm
   rcases hd with hd | ⟨rfl, rfl⟩
   · obtain ⟨g, hg, e⟩ := h.done k z hd hu hv
     exact ⟨g, hg, joinR_con e⟩
   exact ⟨f, hf, joinR_eq.symm⟩
 rename_i hn
 refine ⟨h.sound, fun z f hz => ?_, fun k z hd hu hv => ?_⟩
 · have hz : (if z = w then some i else s.2 z) = some f := hz
   split at hz
   · rename_i e; cases hz; subst e; exact ⟨h0, h1, he, fun e => q (.inl e), fun e => q (.inr e)⟩
   exact h.fst z f hz
 show ∃ f, (if z = w then some i else s.2 z) = some f ∧ s.1 k = s.1 f
 rcases hd with hd | ⟨rfl, rfl⟩
 · obtain ⟨g, hg, e⟩ := h.done k z hd hu hv
   by_cases e2 : z = w
   · subst e2; rw [hn] at hg; cases hg
   rw [if_neg e2]; exact ⟨g, hg, e⟩
 rw [if_pos rfl]; exact ⟨_, rfl, rfl⟩
theorem cl9_run {l : List Lk} {u v : Int} : ∀ n : Nat, n ≤ l.length → Cl9 l u v (fun k w => 0 ≤ k ∧ k < (n : Int) ∧ endP l k w) (clRun u v l n)
 | 0, _ => ⟨fun a b h => by have h : a = b := h; subst h; exact .refl _, fun w f h => (by cases h), fun k w h => (by omega)⟩
 | n + 1, hn => by
   have h := cl9_step (cl9_step (cl9_run (u := u) (v := v) n (by omega)) (i := (n : Int)) (w := lkA l (n : Int)) (by omega) (by omega) (.inl rfl)) (i := (n : Int)) (w := lkB l (n : Int)) (by omega) (by omega) (.inr rfl)
   refine ⟨h.sound, h.fst, fun k w ⟨k0, k1, k2⟩ hu hv => h.done k w ?_ hu hv⟩
   by_cases e : k = (n : Int)
   · subst e
     rcases k2 with e | e
     · exact .inl (.inr ⟨rfl, e.symm⟩)
     exact .inr ⟨rfl, e.symm⟩
   exact .inl (.inl ⟨k0, by omega, k2⟩)
theorem cn_clR {u v : Int} {l : List Lk} {i j : Int} (h : Cn l u v i j) : clR u v l i = clR u v l j := by
 induction h with
 | refl => rfl
 | link a b c d e =>
   obtain ⟨w, h1, h2, h3, h4⟩ := touch_iff.1 e
   have h9 := cl9_run (u := u) (v := v) (l := l) l.length (Nat.le_refl _)
   obtain ⟨f, hf, e1⟩ := h9.done _ w ⟨a, b, h3⟩ h1 h2
   obtain ⟨f', hf', e2⟩ := h9.done _ w ⟨c, d, h4⟩ h1 h2
   rw [hf] at hf'; cases hf'
   exact e1.trans e2.symm
 | symm _ ih => exact ih.symm
 | trans _ _ h1 h2 => exact h1.trans h2
structure ClM (s : ClS) : Prop where
 pos : ∀ j, 0 ≤ j → 0 ≤ s.1 j
 idem : ∀ j, 0 ≤ j → s.1 (s.1 j) = s.1 j
 fs : ∀ w f, s.2 w = some f → 0 ≤ f
structure Bf (l : List Lk) (u v i k t : Int) (c : List Int) : Prop where
 nd : c.Nodup
 fst : i ∈ c
 cn : ∀ x ∈ c, 0 ≤ x ∧ x < (l.length : Int) ∧ Cn l u v i x
 k0 : 0 ≤ k
 kn : k ≤ (c.length : Int)
 cl : ∀ q : Nat, (q : Int) < k → ∀ j, 0 ≤ j → j < (l.length : Int) → touchK (lkAt l (c.getD q 0)) (lkAt l j) u v → j ∈ c
 ct : ∀ j, 0 ≤ j → j < t → touchK (lkAt l (c.getD k.toNat 0)) (lkAt l j) u v → j ∈ c
section
variable {l : List Lk} {u v i k t : Int} {c : List Int}
structure Dn (l : List Lk) (u v i : Int) (d : List Int) (out : List (List Int)) : Prop where
 nd : d.Nodup
 mem : ∀ x, x ∈ d ↔ (0 ≤ x ∧ x < (l.length : Int)) ∧ clR u v l x < i
 out : out = (rootsTo (clR u v l) i).map fun r => (upto (l.length : Int)).filter fun j => decide (clR u v l j = r)
end
theorem Try.eq92 (a b c d e f : Int) : EqOk Try.prog 92 (.agg #[.int .i64 a, .int .i64 b, .int .i64 c]) (.agg #[.int .i64 d, .int .i64 e, .int .i64 f]) (decide (a = d) && (decide (b = e) && decide (c = f))) := by
 intro w
 have hS : Try.prog.underlying 92 = some (.struct (Try.prog.fieldsOf 92)) := by kernel_rfl
 show (Op.equalIn (9999 + 1) 92 _ _).run Try.prog w = _
 rw [run_equalIn_agg w 9999 92 _ _ hS (by kernel_rfl)]
 simp only [Program.fieldsOf, Try.underlying92]
 have u3 := Try.underlying3
 have a3 := Try.isAgg3
 have z3 := Try.sizeOf3
 go_simp
 by_cases h1 : a = d <;> by_cases h2 : b = e <;> by_cases h3 : c = f <;> simp [h1, h2, h3]
end Go.Proofs.Ytahonnlgkmimlaa
namespace Go.Proofs.Ytahonnlgkmimlaa
open Go.RowKit
structure RvI (l : List Lk) (i : Int) (e : List Int) : Prop where
 asc : Asc e
 mem : ∀ x, x ∈ e ↔ x ∈ endsK (l.take i.toNat)
 len : (e.length : Int) ≤ 2 * i
def ringR (l : List Lk) : Bool := decide (2 ≤ (l.length : Int)) && decide (((vertsL l).length : Int) = (l.length : Int))
def spC (l : List Lk) (u v : Int) (cs : List (List Int)) : List (Int × Int × List Int) := candC l u v cs
def spV (l : List Lk) (u : Int) (vs : List Int) : List (Int × Int × List Int) := candV l u vs
def spU (l : List Lk) : List Int → List (Int × Int × List Int)
 | [] => []
 | u :: us => candV l u us ++ spU l us
def splitsR (l : List Lk) : List (Int × Int × List Int) := if ringR l = true then [] else spU l (vertsL l)
def kindR (l : List Lk) : Int := if (l.length : Int) = 1 then 0 else if ringR l = true then 1 else if ((vertsL l).length : Int) = 2 then 2 else if ((splitsR l).length : Int) = 0 then 3 else 4
end Go.Proofs.Ytahonnlgkmimlaa
namespace Go.Proofs.Ytahonnlgkmimlaa
open Go.RowKit
end Go.Proofs.Ytahonnlgkmimlaa
namespace Go.Proofs.Ytahonnlgkmimlaa
open Go.RowKit
theorem solid_ref {n : Int} {E : List (Int × Int)} {V L : List Int} (h : partE n E V L = 0) :
   (decide (((blocksL n E V L).length : Int) = 1) && (decide (((blocksL n E V L).getD (0 : Int).toNat ([], [])).1 = V) && decide (((blocksL n E V L).getD (0 : Int).toNat ([], [])).2 = L))) = solidB n E V L := by
 unfold solidB blocksE
 rw [if_neg (by omega), h]
 simp
theorem eK_len (l : List Lk) : (eK l).length = l.length := by simp [eK]
theorem eK_getD {l : List Lk} {i : Nat} (h : i < l.length) : (eK l).getD i (0, 0) = ((l.getD i (0, (0, 0))).1, (l.getD i (0, (0, 0))).2.1) := by
 unfold eK
 rw [List.getD_eq_getElem?_getD, List.getElem?_map, List.getElem?_eq_getElem h, List.getD_eq_getElem?_getD, List.getElem?_eq_getElem h]; rfl
theorem ends_eK (l : List Lk) : endsL (eK l) (upto (l.length : Int)) = endsK l := by
 have key : ∀ k : Nat, k ≤ l.length → endsL (eK l) (upto (k : Int)) = endsK (l.take k) := by
   intro k
   induction k with
   | zero => intro _; rfl
   | succ k ih =>
     intro hk
     have e := endsK_snoc (l := l) (i := (k : Int)) (by omega) (by omega)
     rw [show ((k : Int) + 1).toNat = k + 1 by omega, Int.toNat_natCast] at e
     rw [show ((k + 1 : Nat) : Int) = (k : Int) + 1 by omega, upto_succ (by omega), e, ← ih (by omega)]
     unfold endsL
     rw [List.flatMap_append, List.flatMap_cons, List.flatMap_nil, List.append_nil, Int.toNat_natCast, eK_getD (by omega)]
     rfl
 have := key l.length (Nat.le_refl _)
 rwa [List.take_length] at this
theorem span_K {l : List Lk} (h : rightE (nK l) (eK l) = 0) : spanE (nK l) (eK l) (upto (l.length : Int)) = ((vertsL l, upto (l.length : Int)), 0) := by
 unfold spanE
 rw [if_neg (by omega), if_neg (fun q => q (upto_rises (by rw [eK_len]; omega))), ends_eK]; rfl
theorem wholeR_K {l : List Lk} (h : okWh l) (h2 : rightE (nK l) (eK l) = 0) : wholeR l = (((nK l, eK l), (vertsL l, upto (l.length : Int))), true) := by
 rw [wholeR_ok h, span_K h2]; rfl
theorem rk_ok {l : List Lk} (h : okWh l) (h2 : rightE (nK l) (eK l) = 0) : rightK l = solidB (nK l) (eK l) (vertsL l) (upto (l.length : Int)) := by
 unfold rightK; rw [wholeR_K h h2]; rfl
theorem rk_wh {l : List Lk} (h : rightK l = true) : okWh l ∧ rightE (nK l) (eK l) = 0 := by
 unfold rightK at h
 rw [Bool.and_eq_true] at h
 have hW := whole_facts h.1 h.2
 refine ⟨hW.wh, ?_⟩
 have h1 := h.1
 rw [wholeR_ok hW.wh] at h1
 have h1 : (spanE (nK l) (eK l) (upto (l.length : Int))).2 = 0 := of_decide_eq_true h1
 unfold spanE at h1
 by_cases q : rightE (nK l) (eK l) = 0
 · exact q
 rw [if_pos q] at h1; exact h1
theorem part_K {l : List Lk} (h2 : rightE (nK l) (eK l) = 0) : partE (nK l) (eK l) (vertsL l) (upto (l.length : Int)) = 0 := by
 obtain ⟨a, b, c, d⟩ := rightE_0 h2
 refine part_iff.2 ⟨h2, ?_, upto_rises (by rw [eK_len]; omega), fun e he v hv => ?_⟩
 · obtain ⟨h3, h4⟩ := compact_sort (endsK l)
   refine rises_iff.2 ⟨h3, fun x hx => ?_⟩
   have hx := (h4 x).1 hx
   rw [← ends_eK] at hx
   obtain ⟨e, he, ht⟩ := mem_endsL.1 hx
   have he := mem_upto.1 he
   have hk := d e.toNat (by rw [eK_len]; omega)
   unfold okE at hk
   rcases ht with ht | ht <;> omega
 obtain ⟨h3, h4⟩ := compact_sort (endsK l)
 refine (h4 v).2 ?_
 rw [← ends_eK]
 exact mem_endsL.2 ⟨e, he, hv⟩
section
variable {l : List Lk} {E C : List Int} {i k j u v : Int} {out r X : List (Int × Int × List Int)}
end
end Go.Proofs.Ytahonnlgkmimlaa
namespace Go.Proofs.Ytahonnlgkmimlaa
open Go.RowKit
end Go.Proofs.Ytahonnlgkmimlaa
namespace Go.Proofs.Ytahonnlgkmimlaa
open Go.RowKit
end Go.Proofs.Ytahonnlgkmimlaa
namespace Go.Proofs.Ytahonnlgkmimlaa
open Go.RowKit
end Go.Proofs.Ytahonnlgkmimlaa
namespace Go.Proofs.Ytahonnlgkmimlaa
open Go.RowKit
end Go.Proofs.Ytahonnlgkmimlaa
namespace Go.Proofs.Ytahonnlgkmimlaa
open Go.RowKit
end Go.Proofs.Ytahonnlgkmimlaa
namespace Go.Proofs.Ytahonnlgkmimlaa
open Go.RowKit
end Go.Proofs.Ytahonnlgkmimlaa
namespace Go.Proofs.Ytahonnlgkmimlaa
open Go.RowKit
end Go.Proofs.Ytahonnlgkmimlaa
namespace Go.Proofs.Ytahonnlgkmimlaa
open Go.RowKit
def awL : List Lk := [(0, (1, 0)), (1, (2, 1)), (2, (3, 2)), (3, (0, 3)), (0, (2, 4))]
theorem awL_whole : wholeR awL = (((4, [(0, 1), (1, 2), (2, 3), (3, 0), (0, 2)]), ([0, 1, 2, 3], [0, 1, 2, 3, 4])), true) := by
 have h1 : okWh awL := by decide +kernel
 have h2 : rightE (nK awL) (eK awL) = 0 := by decide +kernel
 rw [wholeR_ok h1, spanE_ok h2 (by decide +kernel)]
 decide +kernel
theorem awL_first : firstK awL = some (0, (2, [0, 1])) := by
 unfold firstK rightK candU besK
 rw [awL_whole]
 decide +kernel
theorem awL_wf : WfL awL := by
 intro i h0 h1
 have h1 : i < 5 := h1
 have : i = 0 ∨ i = 1 ∨ i = 2 ∨ i = 3 ∨ i = 4 := by omega
 unfold wfI
 rcases this with rfl | rfl | rfl | rfl | rfl <;> decide +kernel
theorem aw_giv {S : Stab} {w : World} {v : Value} (h : ∃ sd, v = .tuple #[.agg #[.int .i64 (firstD awL).1, .int .i64 (firstD awL).2.1, sd], .bool (firstK awL).isSome] ∧ Rd S w sd (firstD awL).2.2) :
   ∃ sd, v = .tuple #[.agg #[.int .i64 0, .int .i64 2, sd], .bool true] ∧ Rd S w sd ([0, 1] : List Int) := by
 unfold firstD at h; rw [awL_first] at h; exact h
def offM (l : List Lk) (sd : List Int) (i : Int) : List Lk := ((upto i).filter fun j => decide (j ∈ sd)).map fun j => l.getD j.toNat (0, (0, 0))
def restM (l : List Lk) (sd : List Int) (i : Int) : List Lk := ((upto i).filter fun j => !decide (j ∈ sd)).map fun j => l.getD j.toNat (0, (0, 0))
theorem any_no {l : List Lk} {id : Int} (h : ∀ j : Nat, j < l.length → ¬ (l.getD j (0, (0, 0))).2.2 = id) : (l.any fun b => decide (b.2.2 = id)) = false := by
 rw [List.any_eq_false]
 intro x hx
 obtain ⟨j, hj, rfl⟩ := List.getElem_of_mem hx
 have := h j hj
 rw [List.getD_eq_getElem?_getD, List.getElem?_eq_getElem hj, Option.getD_some] at this
 simpa using this
theorem any_yes {l : List Lk} {id : Int} {j : Nat} (hj : j < l.length) (h : (l.getD j (0, (0, 0))).2.2 = id) : (l.any fun b => decide (b.2.2 = id)) = true := by
 rw [List.any_eq_true]
 exact ⟨_, getD_mem hj, decide_eq_true h⟩
end Go.Proofs.Ytahonnlgkmimlaa
