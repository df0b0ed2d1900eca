/-
  Texts joined by program: WalkB4, BlockS, BlockL, EngP, TabB, WalkG1, WalkG2.
-/
import Derived.Test.YtahonnlgkmimlaaProg
import Derived.Test.YtahonnlgkmimlaaJBlockPlays3
set_option linter.unusedSimpArgs false
set_option linter.unusedVariables false
namespace Go.Proofs.Ytahonnlgkmimlaa
open Go.RowKit

set_option maxRecDepth 100000 in
set_option maxHeartbeats 8000000 in
theorem find_any (n : Int) (ve : Value) (E : List (Int × Int)) (vv vl : Value) (V L : List Int) (o : Orig) (S : Stab) (s' : Deep.St) (tl : List Res) (w : World) (hpt : partE n E V L = 0) (hE : Rd (· < o.w.heap.size) o.w ve E) (hV : Rd (· < o.w.heap.size) o.w vv V) (hL : Rd (· < o.w.heap.size) o.w vl L) (hH : Fr o w S tl) (hroots : Deep.Roots (dartsL E L) (headE E) V Deep.St.zero s') (hb : Deep.Bd s') :
  Calls Try.prog 80 [.agg #[.int .i64 n, ve], .agg #[vv, vl]].toArray w (fun e w' => ∃ fb mb lb pb vd DL S ev ins, e = .returned (.pointer (some ⟨fb, 0, none⟩)) ∧ Fr o w' S (finR n ve vd DL fb mb lb pb s' ev ins tl) ∧ insOf ins = s'.ins) := by
  obtain ⟨hp1, hp2, hp3, hp4⟩ := partE_0 hpt
  have hr9 := rightE_0 hp1
  have hl9 := rises_len hp3 (by omega)
  have hv9 := rises_len hp2 (by omega)
  refine enter Try.f80 100 Try.func80 fun a hA => ?_
  replace hA := env_sub [(0, .agg #[.int .i64 n, ve]), (1, .agg #[vv, vl])] hA
  have H := hH
  refine go_seq fun K1 hK1 => ?_
  refine region_list ?_
  refine list_at 0 ?_; refine q_box 0 2 24 (.tmp 0) (.agg #[.int .i64 n, ve]) [.int .i64 n, ve] [(1, .agg #[vv, vl])] hA H fun b2 a w3 H hA hG hge_b2 => ?_
  clear hge_b2
  refine list_at 1 ?_; refine q_box 1 3 29 (.tmp 1) (.agg #[vv, vl]) [vv, vl] [(2, .pointer (some ⟨b2, 0, none⟩))] hA H fun b4 a w5 H hA hG hge_b4 => ?_
  clear hge_b4
  refine q_list 2 1 [] [(2, .pointer (some ⟨b2, 0, none⟩)), (3, .pointer (some ⟨b4, 0, none⟩))] ((True) ∧ True) hA H ⟨trivial, trivial⟩ fun a w6 hA H hG => ?_
  refine list_end ?_
  refine hK1 _ _ ?_
  refine go_seq fun K7 hK7 => ?_
  have H0 := H
  have hM0 := H0.keeps none (.inl rfl)
  refine region_mix (But w6 none) [0, 1, 2, 3, 4, 5, 6, 7, 8, 9, 10, 11, 12] 14 ?_
  replace H := H.drawn; have hD := But.drew w6 none
  generalize ({ w6 with drawn := w6.drawn + 1 } : World) = w8 at H hD ⊢
  refine m_take (n := 7) [0, 1, 2, 4, 5, 7, 8] #[true, true, true, false, true, true, false, true, true, false, false, false, false, false] [(12, .agg #[.int .i64 n, ve]), (14, .int .i64 n), (17, .int .i64 n), (20, .int .i64 n)] [(2, .pointer (some ⟨b2, 0, none⟩)), (3, .pointer (some ⟨b4, 0, none⟩)), (12, .agg #[.int .i64 n, ve]), (14, .int .i64 n), (17, .int .i64 n), (20, .int .i64 n)] (((Try.prog.info? 24).isSome = true ∧ RowOk (But w6 none) b2 (0) (Try.prog.cellsOf 24) #[.int .i64 n, ve]) ∧ (0 < Try.prog.cellsOf 3) ∧ (CellOk (But w6 none) b2 (0 + 0) (.int .i64 n)) ∧ (0 < Try.prog.cellsOf 3) ∧ (CellOk (But w6 none) b2 (0 + 0) (.int .i64 n)) ∧ (0 < Try.prog.cellsOf 3) ∧ (CellOk (But w6 none) b2 (0 + 0) (.int .i64 n)) ∧ True) hA hD ⟨⟨by kernel_rfl, by exact box_rowC (box_atC H0 none 1 rfl (fun e => by cases e)) 0 2⟩, by decide +kernel, by exact box_cellC (box_atC H0 none 1 rfl (fun e => by cases e)) 0, by decide +kernel, by exact box_cellC (box_atC H0 none 1 rfl (fun e => by cases e)) 0, by decide +kernel, by exact box_cellC (box_atC H0 none 1 rfl (fun e => by cases e)) 0, trivial⟩ fun a hA => ?_
  refine mix_gen fun M hM => ?_
  have hM75 : ∀ (a : Act) (w92 : World) (S : Stab) (b9 : Nat) (hge_b9 : w6.heap.size ≤ b9) (b17 : Nat) (hge_b17 : w6.heap.size ≤ b17) (b41 : Nat) (hge_b41 : w6.heap.size ≤ b41) (b65 : Nat) (hge_b65 : w6.heap.size ≤ b65) (b73 : Nat) (hge_b73 : w6.heap.size ≤ b73), EnvOk 100 a (keepEnv [(2, .pointer (some ⟨b2, 0, none⟩)), (3, .pointer (some ⟨b4, 0, none⟩)), (24, .pointer (some ⟨b73, 0, none⟩))]) → Fr o w92 S (.box b73 106 [.int .i64 n, ve, (.slice (some ⟨b9, 0, none⟩) n.toNat n.toNat), (.slice (some ⟨b17, 0, none⟩) n.toNat n.toNat), (.slice (some ⟨b41, 0, none⟩) n.toNat n.toNat), .int .i64 0, (.slice none 0 0), (.map (some b65))] :: mapR Try.prog 3 (α := List (Int)) b65 [] :: .box b41 3 (arrV n fun j => .int .i64 (Deep.St.zero.low j)) :: .box b17 3 (arrV n fun j => .int .i64 (Deep.St.zero.met j)) :: .box b9 27 (arrV n (fun _ => .slice none 0 0)) :: .box b4 29 [vv, vl] :: .box b2 24 [.int .i64 n, ve] :: tl) → But w6 none w92 → M 1 #[true, true, true, true, true, true, true, true, true, true, true, true, true, false] a w92 := by
    intro a w92 S b9 hge_b9 b17 hge_b17 b41 hge_b41 b65 hge_b65 b73 hge_b73 hA H hD
    refine (hM _ _ _ _).2 ?_
    refine m_one 13 ?_; refine q_one 13 [] [(2, .pointer (some ⟨b2, 0, none⟩)), (3, .pointer (some ⟨b4, 0, none⟩)), (5, .pointer (some ⟨b73, 0, none⟩))] ((True) ∧ True) hA H ⟨trivial, trivial⟩ fun a w93 H hA hG => ?_
    refine ⟨fun h => absurd h (by decide), ?_⟩
    refine m_end ?_
    refine hK7 _ _ ?_
    refine go_seq fun K94 hK94 => ?_
    refine go_seq fun K95 hK95 => ?_
    replace H := H.newRow (α := Int) 3
    replace H := Fr.order [.row 3 (.slice none 0 0) ([] : List Int), .box b73 106 [.int .i64 n, ve, (.slice (some ⟨b9, 0, none⟩) n.toNat n.toNat), (.slice (some ⟨b17, 0, none⟩) n.toNat n.toNat), (.slice (some ⟨b41, 0, none⟩) n.toNat n.toNat), .int .i64 0, (.slice none 0 0), (.map (some b65))], mapR Try.prog 3 (α := List (Int)) b65 [], .box b41 3 (arrV n fun j => .int .i64 (Deep.St.zero.low j)), .box b17 3 (arrV n fun j => .int .i64 (Deep.St.zero.met j)), .box b9 27 (arrV n (fun _ => .slice none 0 0)), .box b4 29 [vv, vl], .box b2 24 [.int .i64 n, ve]] tl H [1, 4, 3, 0, 2, 5, 6, 7] (by show List.Perm _ (List.range 8); decide)
    replace H : Fr _ _ _ (.box b73 106 [.int .i64 n, ve, (.slice (some ⟨b9, 0, none⟩) n.toNat n.toNat), (.slice (some ⟨b17, 0, none⟩) n.toNat n.toNat), (.slice (some ⟨b41, 0, none⟩) n.toNat n.toNat), .int .i64 0, (.slice none 0 0), (.map (some b65))] :: .box b17 3 (arrV n fun j => .int .i64 (Deep.St.zero.met j)) :: .box b41 3 (arrV n fun j => .int .i64 (Deep.St.zero.low j)) :: .row 3 (.slice none 0 0) ([] : List Int) :: mapR Try.prog 3 (α := List (Int)) b65 [] :: .box b9 27 (arrV n (fun _ => .slice none 0 0)) :: .box b4 29 [vv, vl] :: .box b2 24 [.int .i64 n, ve] :: tl) := H
    replace H := rows_new ([.box b73 106 [.int .i64 n, ve, (.slice (some ⟨b9, 0, none⟩) n.toNat n.toNat), (.slice (some ⟨b17, 0, none⟩) n.toNat n.toNat), (.slice (some ⟨b41, 0, none⟩) n.toNat n.toNat), .int .i64 0, (.slice none 0 0), (.map (some b65))], .box b17 3 (arrV n fun j => .int .i64 (Deep.St.zero.met j)), .box b41 3 (arrV n fun j => .int .i64 (Deep.St.zero.low j)), .row 3 (.slice none 0 0) ([] : List Int), mapR Try.prog 3 (α := List (Int)) b65 [], .box b9 27 (arrV n (fun _ => .slice none 0 0)), .box b4 29 [vv, vl], .box b2 24 [.int .i64 n, ve]] ++ tl) H n
    replace H : Fr _ _ _ (.box b73 106 [.int .i64 n, ve, (.slice (some ⟨b9, 0, none⟩) n.toNat n.toNat), (.slice (some ⟨b17, 0, none⟩) n.toNat n.toNat), (.slice (some ⟨b41, 0, none⟩) n.toNat n.toNat), .int .i64 0, (.slice none 0 0), (.map (some b65))] :: .box b17 3 (arrV n fun j => .int .i64 (Deep.St.zero.met j)) :: .box b41 3 (arrV n fun j => .int .i64 (Deep.St.zero.low j)) :: .row 3 (.slice none 0 0) ([] : List Int) :: mapR Try.prog 3 (α := List (Int)) b65 [] :: .box b9 27 (arrV n (fun _ => .slice none 0 0)) :: .box b4 29 [vv, vl] :: .box b2 24 [.int .i64 n, ve] :: (tl ++ rowsT n (fun _ => .slice none 0 0) (fun _ => []))) := H
    refine q_reg [(26, vl), (27, .int .i64 (L.length : Int))] [(2, .pointer (some ⟨b2, 0, none⟩)), (3, .pointer (some ⟨b4, 0, none⟩)), (5, .pointer (some ⟨b73, 0, none⟩)), (26, vl), (27, .int .i64 (L.length : Int)), (28, .int .i64 0)] ((0 < Try.prog.cellsOf 27) ∧ (CellOk (On w93) b4 (0 + 1) (vl)) ∧ (LenOk vl (L.length : Int)) ∧ (True) ∧ True) hA H ⟨by decide +kernel, by exact box_cell H 6 rfl 1, by exact len_ok (H.arg hL), trivial, trivial⟩ fun a w96 hA H hG => ?_
    refine hK95 _ _ ?_
    refine go_block 0 ?_
    refine go_loop_ (Int × (Int → Value) × (Int → List Int)) (fun x_ a W => (fun (i : Int) (vs : (Int → Value)) (ls : (Int → List Int)) => EnvOk 100 a (keepEnv [(2, .pointer (some ⟨b2, 0, none⟩)), (3, .pointer (some ⟨b4, 0, none⟩)), (5, .pointer (some ⟨b73, 0, none⟩)), (26, vl), (27, .int .i64 (L.length : Int)), (28, .int .i64 i)]) ∧ (∃ S, Fr o W S (.box b73 106 [.int .i64 n, ve, (.slice (some ⟨b9, 0, none⟩) n.toNat n.toNat), (.slice (some ⟨b17, 0, none⟩) n.toNat n.toNat), (.slice (some ⟨b41, 0, none⟩) n.toNat n.toNat), .int .i64 0, (.slice none 0 0), (.map (some b65))] :: .box b17 3 (arrV n fun j => .int .i64 (Deep.St.zero.met j)) :: .box b41 3 (arrV n fun j => .int .i64 (Deep.St.zero.low j)) :: .row 3 (.slice none 0 0) ([] : List Int) :: mapR Try.prog 3 (α := List (Int)) b65 [] :: .box b9 27 (arrV n vs) :: .box b4 29 [vv, vl] :: .box b2 24 [.int .i64 n, ve] :: (tl ++ rowsT n vs ls))) ∧ 0 ≤ i ∧ (∀ x, 0 ≤ x → x < n → ls x = dartsL E (L.take i.toNat) x) ∧ ∀ x, ((ls x).length : Int) ≤ 2 * i) x_.1 x_.2.1 x_.2.2) (fun x_ => (fun (i : Int) (vs : (Int → Value)) (ls : (Int → List Int)) => ((L.length : Int) - i).toNat) x_.1 x_.2.1 x_.2.2) (0, (fun _ => .slice none 0 0), (fun _ => [])) ?_ (fun x_ a w98 hI => ?_)
    · (try dsimp only); exact ⟨env_sub _ hA, ⟨_, H⟩, by omega, fun x _ _ => rfl, fun x => by simp⟩
    obtain ⟨i, vs, ls⟩ := x_
    obtain ⟨hA, ⟨S, H⟩, h0, hls, hll⟩ := hI
    try dsimp only at h0 hls hll
    refine go_seq fun K99 hK99 => ?_
    refine q_reg [] [(2, .pointer (some ⟨b2, 0, none⟩)), (3, .pointer (some ⟨b4, 0, none⟩)), (5, .pointer (some ⟨b73, 0, none⟩)), (26, vl), (27, .int .i64 (L.length : Int)), (28, .int .i64 i), (29, .bool (decide (i < (L.length : Int))))] ((True) ∧ True) hA H ⟨trivial, trivial⟩ fun a w100 hA H hG => ?_
    refine hK99 _ _ ?_
    refine go_seq fun K101 hK101 => ?_
    refine go_cond hA (.tmp 29) (decide (i < (L.length : Int))) (fun hb102 => ?_) (fun hb102 => ?_)
    · have hhb102 := of_decide_eq_true hb102
      refine go_skip ?_
      refine hK101 _ _ ?_
      refine go_seq fun K103 hK103 => ?_
      refine go_block 1 ?_
      refine go_seq fun K104 hK104 => ?_
      refine q_reg [(31, .int .i64 (L.getD i.toNat 0))] [(2, .pointer (some ⟨b2, 0, none⟩)), (3, .pointer (some ⟨b4, 0, none⟩)), (5, .pointer (some ⟨b73, 0, none⟩)), (7, .int .i64 (L.getD i.toNat 0)), (26, vl), (27, .int .i64 (L.length : Int)), (28, .int .i64 i)] (((Try.prog.info? 3).isSome = true ∧ IdxOk vl i) ∧ (CellOk (On w100) (hdB vl) (hdO vl + i.toNat * 1) (.int .i64 (L.getD i.toNat 0))) ∧ (True) ∧ True) hA H ⟨⟨by kernel_rfl, by exact idx_ok (H.arg hL) (by omega) (by omega)⟩, by exact cell_flat (i := i) (H.arg hL) (by omega) (by omega) 0 0, trivial, trivial⟩ fun a w105 hA H hG => ?_
      refine hK104 _ _ ?_
      refine go_seq fun K106 hK106 => ?_
      have hx := hp3 i.toNat (by omega)
      have hok := okEs_at hr9.2.2.2 hx.1 hx.2.1
      unfold okE at hok
      refine q_draw [(33, ve), (37, .int .i64 ((E.getD (L.getD i.toNat 0).toNat (0, 0)).1)), (39, ve), (43, .int .i64 ((E.getD (L.getD i.toNat 0).toNat (0, 0)).2))] [(2, .pointer (some ⟨b2, 0, none⟩)), (3, .pointer (some ⟨b4, 0, none⟩)), (5, .pointer (some ⟨b73, 0, none⟩)), (7, .int .i64 (L.getD i.toNat 0)), (8, .int .i64 ((E.getD (L.getD i.toNat 0).toNat (0, 0)).1)), (9, .int .i64 ((E.getD (L.getD i.toNat 0).toNat (0, 0)).2)), (26, vl), (27, .int .i64 (L.length : Int)), (28, .int .i64 i)] ((0 < Try.prog.cellsOf 22) ∧ (CellOk (On w105) b2 (0 + 1) (ve)) ∧ (True) ∧ ((Try.prog.info? 99).isSome = true ∧ IdxOk ve (L.getD i.toNat 0)) ∧ (0 < Try.prog.cellsOf 3) ∧ (CellOk (On w105) (hdB ve) (hdO ve + (L.getD i.toNat 0).toNat * 2 + 0) (.int .i64 ((E.getD (L.getD i.toNat 0).toNat (0, 0)).1))) ∧ (0 < Try.prog.cellsOf 22) ∧ (CellOk (On w105) b2 (0 + 1) (ve)) ∧ (True) ∧ ((Try.prog.info? 99).isSome = true ∧ IdxOk ve (L.getD i.toNat 0)) ∧ (0 < Try.prog.cellsOf 3) ∧ (CellOk (On w105) (hdB ve) (hdO ve + (L.getD i.toNat 0).toNat * 2 + 1) (.int .i64 ((E.getD (L.getD i.toNat 0).toNat (0, 0)).2))) ∧ (True) ∧ (True) ∧ True) hA H ⟨by decide +kernel, by exact box_cell H 7 rfl 1, trivial, ⟨by kernel_rfl, by exact idx_ok (H.arg hE) (by omega) (by omega)⟩, by decide +kernel, by exact cell_flat (i := (L.getD i.toNat 0)) (H.arg hE) (by omega) (by omega) (0, 0) 0, by decide +kernel, by exact box_cell H 7 rfl 1, trivial, ⟨by kernel_rfl, by exact idx_ok (H.arg hE) (by omega) (by omega)⟩, by decide +kernel, by exact cell_flat (i := (L.getD i.toNat 0)) (H.arg hE) (by omega) (by omega) (0, 0) 1, trivial, trivial, trivial⟩ fun a w107 hA H hG => ?_
      refine hK106 _ _ ?_
      refine go_seq fun K108 hK108 => ?_
      generalize ha9 : (E.getD (L.getD i.toNat 0).toNat (0, 0)).1 = ua at hA hok
      generalize hb9 : (E.getD (L.getD i.toNat 0).toNat (0, 0)).2 = ub at hA hok
      have hlla := hll ua
      replace H := rows_out (a := ua) ([.box b73 106 [.int .i64 n, ve, (.slice (some ⟨b9, 0, none⟩) n.toNat n.toNat), (.slice (some ⟨b17, 0, none⟩) n.toNat n.toNat), (.slice (some ⟨b41, 0, none⟩) n.toNat n.toNat), .int .i64 0, (.slice none 0 0), (.map (some b65))], .box b17 3 (arrV n fun j => .int .i64 (Deep.St.zero.met j)), .box b41 3 (arrV n fun j => .int .i64 (Deep.St.zero.low j)), .row 3 (.slice none 0 0) ([] : List Int), mapR Try.prog 3 (α := List (Int)) b65 [], .box b9 27 (arrV n vs), .box b4 29 [vv, vl], .box b2 24 [.int .i64 n, ve]] ++ tl) H (by omega) (by omega)
      replace H : Fr _ _ _ (.row 3 (vs ua) (ls ua) :: .box b73 106 [.int .i64 n, ve, (.slice (some ⟨b9, 0, none⟩) n.toNat n.toNat), (.slice (some ⟨b17, 0, none⟩) n.toNat n.toNat), (.slice (some ⟨b41, 0, none⟩) n.toNat n.toNat), .int .i64 0, (.slice none 0 0), (.map (some b65))] :: .box b17 3 (arrV n fun j => .int .i64 (Deep.St.zero.met j)) :: .box b41 3 (arrV n fun j => .int .i64 (Deep.St.zero.low j)) :: .row 3 (.slice none 0 0) ([] : List Int) :: mapR Try.prog 3 (α := List (Int)) b65 [] :: .box b9 27 (arrV n vs) :: .box b4 29 [vv, vl] :: .box b2 24 [.int .i64 n, ve] :: (tl ++ (rowsT n vs ls).eraseIdx ua.toNat)) := H
      have H0 := H
      have hM0 := H0.keeps ((vs ua).ownBlock) (.inr ⟨_, List.mem_of_getElem? (i := 0) rfl, rfl⟩)
      refine region_mix (But w107 ((vs ua).ownBlock)) [0, 1, 2, 3, 4, 5, 6, 7, 8, 9, 10, 11, 12, 13, 14, 15] 18 ?_
      replace H := H.drawn; have hD := But.drew w107 ((vs ua).ownBlock)
      generalize ({ w107 with drawn := w107.drawn + 1 } : World) = w109 at H hD ⊢
      refine m_take (n := 4) [0, 1, 2, 3, 4, 5, 6, 7, 8, 9, 10, 11, 12, 13] #[true, true, true, true, true, true, true, true, true, true, true, true, true, true, false, false, false, false] [(47, (.slice (some ⟨b9, 0, none⟩) n.toNat n.toNat)), (52, (.slice (some ⟨b9, 0, none⟩) n.toNat n.toNat)), (55, (vs ua))] [(2, .pointer (some ⟨b2, 0, none⟩)), (3, .pointer (some ⟨b4, 0, none⟩)), (5, .pointer (some ⟨b73, 0, none⟩)), (7, .int .i64 (L.getD i.toNat 0)), (9, .int .i64 ub), (26, vl), (27, .int .i64 (L.length : Int)), (28, .int .i64 i), (47, (.slice (some ⟨b9, 0, none⟩) n.toNat n.toNat)), (48, .int .i64 ua), (55, (vs ua)), (57, .int .i64 (2 * (L.getD i.toNat 0)))] ((True) ∧ (True) ∧ (0 < Try.prog.cellsOf 67) ∧ (CellOk (But w107 ((vs ua).ownBlock)) b73 (0 + 2) ((.slice (some ⟨b9, 0, none⟩) n.toNat n.toNat))) ∧ (True) ∧ (True) ∧ (True) ∧ (0 < Try.prog.cellsOf 67) ∧ (CellOk (But w107 ((vs ua).ownBlock)) b73 (0 + 2) ((.slice (some ⟨b9, 0, none⟩) n.toNat n.toNat))) ∧ (True) ∧ ((Try.prog.info? 27).isSome = true ∧ IdxOk (.slice (some ⟨b9, 0, none⟩) n.toNat n.toNat) ua) ∧ (CellOk (But w107 ((vs ua).ownBlock)) b9 (0 + ua.toNat * 1) ((vs ua))) ∧ (True) ∧ (InR .i64 (2 * (L.getD i.toNat 0))) ∧ True) hA hD ⟨trivial, trivial, by decide +kernel, by exact box_cellC (box_atC H0 ((vs ua).ownBlock) 1 rfl (H0.apart 1 0 (by decide) rfl rfl rfl)) 2, trivial, trivial, trivial, by decide +kernel, by exact box_cellC (box_atC H0 ((vs ua).ownBlock) 1 rfl (H0.apart 1 0 (by decide) rfl rfl rfl)) 2, trivial, ⟨by kernel_rfl, arr_idx (by omega) (by omega)⟩, by exact arr_cellC (box_atC H0 ((vs ua).ownBlock) 6 rfl (H0.apart 6 0 (by decide) rfl rfl rfl)) (by omega) (by omega), trivial, ⟨by omega, by omega⟩, trivial⟩ fun a hA => ?_
      refine m_one 14 ?_; refine q_lit 14 58 27 1 #[(0, .tmp 57)] 3 [(0, .int .i64 (2 * (L.getD i.toNat 0)))] [.int .i64 (2 * (L.getD i.toNat 0))] [(2, .pointer (some ⟨b2, 0, none⟩)), (3, .pointer (some ⟨b4, 0, none⟩)), (5, .pointer (some ⟨b73, 0, none⟩)), (7, .int .i64 (L.getD i.toNat 0)), (9, .int .i64 ub), (26, vl), (27, .int .i64 (L.length : Int)), (28, .int .i64 i), (47, (.slice (some ⟨b9, 0, none⟩) n.toNat n.toNat)), (48, .int .i64 ua), (55, (vs ua))] hA H fun b110 a w111 H hA hG hge_b110 => ?_
      replace hge_b110 := Nat.le_trans hD.1 hge_b110
      replace hD := hD.below hG
      refine ⟨fun _ => hD, ?_⟩
      refine m_one 15 ?_; refine q_push 15 59 (.tmp 55) (.tmp 58) 1 0 b110 1 1 (vs ua) (ls ua) [2 * (L.getD i.toNat 0)] [.int .i64 (2 * (L.getD i.toNat 0))] [(2, .pointer (some ⟨b2, 0, none⟩)), (3, .pointer (some ⟨b4, 0, none⟩)), (5, .pointer (some ⟨b73, 0, none⟩)), (7, .int .i64 (L.getD i.toNat 0)), (9, .int .i64 ub), (26, vl), (27, .int .i64 (L.length : Int)), (28, .int .i64 i), (47, (.slice (some ⟨b9, 0, none⟩) n.toNat n.toNat)), (48, .int .i64 ua)] hA H Try.E27 rfl rfl (by exact (RowRd.single (α := Int) rfl)) rfl (by simp only [List.length_cons, List.length_nil, List.length_append]; omega) (by decide) fun v112 a w113 H hA hG => ?_
      replace H : Fr _ _ _ (.row 3 v112 ((ls ua) ++ [2 * (L.getD i.toNat 0)]) :: .box b73 106 [.int .i64 n, ve, (.slice (some ⟨b9, 0, none⟩) n.toNat n.toNat), (.slice (some ⟨b17, 0, none⟩) n.toNat n.toNat), (.slice (some ⟨b41, 0, none⟩) n.toNat n.toNat), .int .i64 0, (.slice none 0 0), (.map (some b65))] :: .box b17 3 (arrV n fun j => .int .i64 (Deep.St.zero.met j)) :: .box b41 3 (arrV n fun j => .int .i64 (Deep.St.zero.low j)) :: .row 3 (.slice none 0 0) ([] : List Int) :: mapR Try.prog 3 (α := List (Int)) b65 [] :: .box b9 27 (arrV n vs) :: .box b4 29 [vv, vl] :: .box b2 24 [.int .i64 n, ve] :: (tl ++ (rowsT n vs ls).eraseIdx ua.toNat)) := H.drop 0
      replace hD := hD.grown hG (fun b hb => .inl hb.symm)
      refine ⟨fun _ => hD, ?_⟩
      refine m_one 16 ?_; refine q_one 16 [] [(2, .pointer (some ⟨b2, 0, none⟩)), (3, .pointer (some ⟨b4, 0, none⟩)), (5, .pointer (some ⟨b73, 0, none⟩)), (7, .int .i64 (L.getD i.toNat 0)), (9, .int .i64 ub), (26, vl), (27, .int .i64 (L.length : Int)), (28, .int .i64 i), (59, v112), (60, .pointer (some ⟨b9, 0 + ua.toNat * 1, none⟩))] (((Try.prog.info? 27).isSome = true ∧ IdxOk (.slice (some ⟨b9, 0, none⟩) n.toNat n.toNat) ua) ∧ True) hA H ⟨⟨by kernel_rfl, arr_idx (by omega) (by omega)⟩, trivial⟩ fun a w114 H hA hG => ?_
      refine ⟨fun h => absurd h (by decide), ?_⟩
      refine m_one 17 ?_; refine q_store 17 27 (.tmp 60) (.tmp 59) 6 b9 (0 + ua.toNat * 1) 27 ((arrV n vs)) [v112] ((arrV n (updF vs ua v112))) v112 [(2, .pointer (some ⟨b2, 0, none⟩)), (3, .pointer (some ⟨b4, 0, none⟩)), (5, .pointer (some ⟨b73, 0, none⟩)), (7, .int .i64 (L.getD i.toNat 0)), (9, .int .i64 ub), (26, vl), (27, .int .i64 (L.length : Int)), (28, .int .i64 i)] hA H rfl (one_cells (rd_one (H.out 0 rfl))) (arr_room (by omega) (by omega)) (arr_set (by omega) (by omega) (updF_same _ _ _) (fun j hj => updF_ne _ _ hj)) (fun v hv => by simp only [List.mem_cons, List.not_mem_nil, or_false] at hv; rcases hv with rfl; exact (rd_one (H.out 0 rfl))) fun a w115 H hA hG => ?_
      replace H : Fr _ _ _ (.row 3 v112 ((ls ua) ++ [2 * (L.getD i.toNat 0)]) :: .box b73 106 [.int .i64 n, ve, (.slice (some ⟨b9, 0, none⟩) n.toNat n.toNat), (.slice (some ⟨b17, 0, none⟩) n.toNat n.toNat), (.slice (some ⟨b41, 0, none⟩) n.toNat n.toNat), .int .i64 0, (.slice none 0 0), (.map (some b65))] :: .box b17 3 (arrV n fun j => .int .i64 (Deep.St.zero.met j)) :: .box b41 3 (arrV n fun j => .int .i64 (Deep.St.zero.low j)) :: .row 3 (.slice none 0 0) ([] : List Int) :: mapR Try.prog 3 (α := List (Int)) b65 [] :: .box b9 27 (arrV n (updF vs ua v112)) :: .box b4 29 [vv, vl] :: .box b2 24 [.int .i64 n, ve] :: (tl ++ (rowsT n vs ls).eraseIdx ua.toNat)) := H
      refine ⟨fun h => absurd h (by decide), ?_⟩
      refine m_end ?_
      refine hK108 _ _ ?_
      replace H := rows_in (a := ua) ([.box b73 106 [.int .i64 n, ve, (.slice (some ⟨b9, 0, none⟩) n.toNat n.toNat), (.slice (some ⟨b17, 0, none⟩) n.toNat n.toNat), (.slice (some ⟨b41, 0, none⟩) n.toNat n.toNat), .int .i64 0, (.slice none 0 0), (.map (some b65))], .box b17 3 (arrV n fun j => .int .i64 (Deep.St.zero.met j)), .box b41 3 (arrV n fun j => .int .i64 (Deep.St.zero.low j)), .row 3 (.slice none 0 0) ([] : List Int), mapR Try.prog 3 (α := List (Int)) b65 [], .box b9 27 (arrV n (updF vs ua v112)), .box b4 29 [vv, vl], .box b2 24 [.int .i64 n, ve]] ++ tl) H (by omega) (by omega)
      replace H : Fr _ _ _ (.box b73 106 [.int .i64 n, ve, (.slice (some ⟨b9, 0, none⟩) n.toNat n.toNat), (.slice (some ⟨b17, 0, none⟩) n.toNat n.toNat), (.slice (some ⟨b41, 0, none⟩) n.toNat n.toNat), .int .i64 0, (.slice none 0 0), (.map (some b65))] :: .box b17 3 (arrV n fun j => .int .i64 (Deep.St.zero.met j)) :: .box b41 3 (arrV n fun j => .int .i64 (Deep.St.zero.low j)) :: .row 3 (.slice none 0 0) ([] : List Int) :: mapR Try.prog 3 (α := List (Int)) b65 [] :: .box b9 27 (arrV n (updF vs ua v112)) :: .box b4 29 [vv, vl] :: .box b2 24 [.int .i64 n, ve] :: (tl ++ rowsT n (updF vs ua v112) (updF ls ua ((ls ua) ++ [2 * (L.getD i.toNat 0)])))) := H
      have hllb : (((updF ls ua ((ls ua) ++ [2 * (L.getD i.toNat 0)])) ub).length : Int) ≤ 2 * i + 1 := by unfold updF; split <;> (try simp only [List.length_append, List.length_cons, List.length_nil]) <;> (have := hll ua; have := hll ub; omega)
      replace H := rows_out (a := ub) ([.box b73 106 [.int .i64 n, ve, (.slice (some ⟨b9, 0, none⟩) n.toNat n.toNat), (.slice (some ⟨b17, 0, none⟩) n.toNat n.toNat), (.slice (some ⟨b41, 0, none⟩) n.toNat n.toNat), .int .i64 0, (.slice none 0 0), (.map (some b65))], .box b17 3 (arrV n fun j => .int .i64 (Deep.St.zero.met j)), .box b41 3 (arrV n fun j => .int .i64 (Deep.St.zero.low j)), .row 3 (.slice none 0 0) ([] : List Int), mapR Try.prog 3 (α := List (Int)) b65 [], .box b9 27 (arrV n (updF vs ua v112)), .box b4 29 [vv, vl], .box b2 24 [.int .i64 n, ve]] ++ tl) H (by omega) (by omega)
      replace H : Fr _ _ _ (.row 3 ((updF vs ua v112) ub) ((updF ls ua ((ls ua) ++ [2 * (L.getD i.toNat 0)])) ub) :: .box b73 106 [.int .i64 n, ve, (.slice (some ⟨b9, 0, none⟩) n.toNat n.toNat), (.slice (some ⟨b17, 0, none⟩) n.toNat n.toNat), (.slice (some ⟨b41, 0, none⟩) n.toNat n.toNat), .int .i64 0, (.slice none 0 0), (.map (some b65))] :: .box b17 3 (arrV n fun j => .int .i64 (Deep.St.zero.met j)) :: .box b41 3 (arrV n fun j => .int .i64 (Deep.St.zero.low j)) :: .row 3 (.slice none 0 0) ([] : List Int) :: mapR Try.prog 3 (α := List (Int)) b65 [] :: .box b9 27 (arrV n (updF vs ua v112)) :: .box b4 29 [vv, vl] :: .box b2 24 [.int .i64 n, ve] :: (tl ++ (rowsT n (updF vs ua v112) (updF ls ua ((ls ua) ++ [2 * (L.getD i.toNat 0)]))).eraseIdx ub.toNat)) := H
      have H0 := H
      have hM0 := H0.keeps (((updF vs ua v112) ub).ownBlock) (.inr ⟨_, List.mem_of_getElem? (i := 0) rfl, rfl⟩)
      refine region_mix (But w115 (((updF vs ua v112) ub).ownBlock)) [0, 1, 2, 3, 4, 5, 6, 7, 8, 9, 10, 11, 12, 13, 14, 15, 16] 19 ?_
      replace H := H.drawn; have hD := But.drew w115 (((updF vs ua v112) ub).ownBlock)
      generalize ({ w115 with drawn := w115.drawn + 1 } : World) = w116 at H hD ⊢
      refine m_take (n := 4) [0, 1, 2, 3, 4, 5, 6, 7, 8, 9, 10, 11, 12, 13, 14] #[true, true, true, true, true, true, true, true, true, true, true, true, true, true, true, false, false, false, false] [(64, (.slice (some ⟨b9, 0, none⟩) n.toNat n.toNat)), (69, (.slice (some ⟨b9, 0, none⟩) n.toNat n.toNat)), (72, ((updF vs ua v112) ub))] [(2, .pointer (some ⟨b2, 0, none⟩)), (3, .pointer (some ⟨b4, 0, none⟩)), (5, .pointer (some ⟨b73, 0, none⟩)), (26, vl), (27, .int .i64 (L.length : Int)), (28, .int .i64 i), (64, (.slice (some ⟨b9, 0, none⟩) n.toNat n.toNat)), (65, .int .i64 ub), (72, ((updF vs ua v112) ub)), (75, .int .i64 ((2 * (L.getD i.toNat 0)) + 1))] ((True) ∧ (True) ∧ (0 < Try.prog.cellsOf 67) ∧ (CellOk (But w115 (((updF vs ua v112) ub).ownBlock)) b73 (0 + 2) ((.slice (some ⟨b9, 0, none⟩) n.toNat n.toNat))) ∧ (True) ∧ (True) ∧ (True) ∧ (0 < Try.prog.cellsOf 67) ∧ (CellOk (But w115 (((updF vs ua v112) ub).ownBlock)) b73 (0 + 2) ((.slice (some ⟨b9, 0, none⟩) n.toNat n.toNat))) ∧ (True) ∧ ((Try.prog.info? 27).isSome = true ∧ IdxOk (.slice (some ⟨b9, 0, none⟩) n.toNat n.toNat) ub) ∧ (CellOk (But w115 (((updF vs ua v112) ub).ownBlock)) b9 (0 + ub.toNat * 1) (((updF vs ua v112) ub))) ∧ (True) ∧ (InR .i64 (2 * (L.getD i.toNat 0))) ∧ (InR .i64 ((2 * (L.getD i.toNat 0)) + 1)) ∧ True) hA hD ⟨trivial, trivial, by decide +kernel, by exact box_cellC (box_atC H0 (((updF vs ua v112) ub).ownBlock) 1 rfl (H0.apart 1 0 (by decide) rfl rfl rfl)) 2, trivial, trivial, trivial, by decide +kernel, by exact box_cellC (box_atC H0 (((updF vs ua v112) ub).ownBlock) 1 rfl (H0.apart 1 0 (by decide) rfl rfl rfl)) 2, trivial, ⟨by kernel_rfl, arr_idx (by omega) (by omega)⟩, by exact arr_cellC (box_atC H0 (((updF vs ua v112) ub).ownBlock) 6 rfl (H0.apart 6 0 (by decide) rfl rfl rfl)) (by omega) (by omega), trivial, ⟨by omega, by omega⟩, ⟨by omega, by omega⟩, trivial⟩ fun a hA => ?_
      refine m_one 15 ?_; refine q_lit 15 76 27 1 #[(0, .tmp 75)] 3 [(0, .int .i64 ((2 * (L.getD i.toNat 0)) + 1))] [.int .i64 ((2 * (L.getD i.toNat 0)) + 1)] [(2, .pointer (some ⟨b2, 0, none⟩)), (3, .pointer (some ⟨b4, 0, none⟩)), (5, .pointer (some ⟨b73, 0, none⟩)), (26, vl), (27, .int .i64 (L.length : Int)), (28, .int .i64 i), (64, (.slice (some ⟨b9, 0, none⟩) n.toNat n.toNat)), (65, .int .i64 ub), (72, ((updF vs ua v112) ub))] hA H fun b117 a w118 H hA hG hge_b117 => ?_
      replace hge_b117 := Nat.le_trans hD.1 hge_b117
      replace hD := hD.below hG
      refine ⟨fun _ => hD, ?_⟩
      refine m_one 16 ?_; refine q_push 16 77 (.tmp 72) (.tmp 76) 1 0 b117 1 1 ((updF vs ua v112) ub) ((updF ls ua ((ls ua) ++ [2 * (L.getD i.toNat 0)])) ub) [(2 * (L.getD i.toNat 0)) + 1] [.int .i64 ((2 * (L.getD i.toNat 0)) + 1)] [(2, .pointer (some ⟨b2, 0, none⟩)), (3, .pointer (some ⟨b4, 0, none⟩)), (5, .pointer (some ⟨b73, 0, none⟩)), (26, vl), (27, .int .i64 (L.length : Int)), (28, .int .i64 i), (64, (.slice (some ⟨b9, 0, none⟩) n.toNat n.toNat)), (65, .int .i64 ub)] hA H Try.E27 rfl rfl (by exact (RowRd.single (α := Int) rfl)) rfl (by simp only [List.length_cons, List.length_nil, List.length_append]; omega) (by decide) fun v119 a w120 H hA hG => ?_
      replace H : Fr _ _ _ (.row 3 v119 (((updF ls ua ((ls ua) ++ [2 * (L.getD i.toNat 0)])) ub) ++ [(2 * (L.getD i.toNat 0)) + 1]) :: .box b73 106 [.int .i64 n, ve, (.slice (some ⟨b9, 0, none⟩) n.toNat n.toNat), (.slice (some ⟨b17, 0, none⟩) n.toNat n.toNat), (.slice (some ⟨b41, 0, none⟩) n.toNat n.toNat), .int .i64 0, (.slice none 0 0), (.map (some b65))] :: .box b17 3 (arrV n fun j => .int .i64 (Deep.St.zero.met j)) :: .box b41 3 (arrV n fun j => .int .i64 (Deep.St.zero.low j)) :: .row 3 (.slice none 0 0) ([] : List Int) :: mapR Try.prog 3 (α := List (Int)) b65 [] :: .box b9 27 (arrV n (updF vs ua v112)) :: .box b4 29 [vv, vl] :: .box b2 24 [.int .i64 n, ve] :: (tl ++ (rowsT n (updF vs ua v112) (updF ls ua ((ls ua) ++ [2 * (L.getD i.toNat 0)]))).eraseIdx ub.toNat)) := H.drop 0
      replace hD := hD.grown hG (fun b hb => .inl hb.symm)
      refine ⟨fun _ => hD, ?_⟩
      refine m_one 17 ?_; refine q_one 17 [] [(2, .pointer (some ⟨b2, 0, none⟩)), (3, .pointer (some ⟨b4, 0, none⟩)), (5, .pointer (some ⟨b73, 0, none⟩)), (26, vl), (27, .int .i64 (L.length : Int)), (28, .int .i64 i), (77, v119), (78, .pointer (some ⟨b9, 0 + ub.toNat * 1, none⟩))] (((Try.prog.info? 27).isSome = true ∧ IdxOk (.slice (some ⟨b9, 0, none⟩) n.toNat n.toNat) ub) ∧ True) hA H ⟨⟨by kernel_rfl, arr_idx (by omega) (by omega)⟩, trivial⟩ fun a w121 H hA hG => ?_
      refine ⟨fun h => absurd h (by decide), ?_⟩
      refine m_one 18 ?_; refine q_store 18 27 (.tmp 78) (.tmp 77) 6 b9 (0 + ub.toNat * 1) 27 ((arrV n (updF vs ua v112))) [v119] ((arrV n (updF (updF vs ua v112) ub v119))) v119 [(2, .pointer (some ⟨b2, 0, none⟩)), (3, .pointer (some ⟨b4, 0, none⟩)), (5, .pointer (some ⟨b73, 0, none⟩)), (26, vl), (27, .int .i64 (L.length : Int)), (28, .int .i64 i)] hA H rfl (one_cells (rd_one (H.out 0 rfl))) (arr_room (by omega) (by omega)) (arr_set (by omega) (by omega) (updF_same _ _ _) (fun j hj => updF_ne _ _ hj)) (fun v hv => by simp only [List.mem_cons, List.not_mem_nil, or_false] at hv; rcases hv with rfl; exact (rd_one (H.out 0 rfl))) fun a w122 H hA hG => ?_
      replace H : Fr _ _ _ (.row 3 v119 (((updF ls ua ((ls ua) ++ [2 * (L.getD i.toNat 0)])) ub) ++ [(2 * (L.getD i.toNat 0)) + 1]) :: .box b73 106 [.int .i64 n, ve, (.slice (some ⟨b9, 0, none⟩) n.toNat n.toNat), (.slice (some ⟨b17, 0, none⟩) n.toNat n.toNat), (.slice (some ⟨b41, 0, none⟩) n.toNat n.toNat), .int .i64 0, (.slice none 0 0), (.map (some b65))] :: .box b17 3 (arrV n fun j => .int .i64 (Deep.St.zero.met j)) :: .box b41 3 (arrV n fun j => .int .i64 (Deep.St.zero.low j)) :: .row 3 (.slice none 0 0) ([] : List Int) :: mapR Try.prog 3 (α := List (Int)) b65 [] :: .box b9 27 (arrV n (updF (updF vs ua v112) ub v119)) :: .box b4 29 [vv, vl] :: .box b2 24 [.int .i64 n, ve] :: (tl ++ (rowsT n (updF vs ua v112) (updF ls ua ((ls ua) ++ [2 * (L.getD i.toNat 0)]))).eraseIdx ub.toNat)) := H
      refine ⟨fun h => absurd h (by decide), ?_⟩
      refine m_end ?_
      refine hK103 _ _ ?_
      refine q_reg [] [(2, .pointer (some ⟨b2, 0, none⟩)), (3, .pointer (some ⟨b4, 0, none⟩)), (5, .pointer (some ⟨b73, 0, none⟩)), (26, vl), (27, .int .i64 (L.length : Int)), (28, .int .i64 (i + 1))] ((InR .i64 (i + 1)) ∧ (True) ∧ True) hA H ⟨⟨by omega, by omega⟩, trivial, trivial⟩ fun a w123 hA H hG => ?_
      replace H := rows_in (a := ub) ([.box b73 106 [.int .i64 n, ve, (.slice (some ⟨b9, 0, none⟩) n.toNat n.toNat), (.slice (some ⟨b17, 0, none⟩) n.toNat n.toNat), (.slice (some ⟨b41, 0, none⟩) n.toNat n.toNat), .int .i64 0, (.slice none 0 0), (.map (some b65))], .box b17 3 (arrV n fun j => .int .i64 (Deep.St.zero.met j)), .box b41 3 (arrV n fun j => .int .i64 (Deep.St.zero.low j)), .row 3 (.slice none 0 0) ([] : List Int), mapR Try.prog 3 (α := List (Int)) b65 [], .box b9 27 (arrV n (updF (updF vs ua v112) ub v119)), .box b4 29 [vv, vl], .box b2 24 [.int .i64 n, ve]] ++ tl) H (by omega) (by omega)
      replace H : Fr _ _ _ (.box b73 106 [.int .i64 n, ve, (.slice (some ⟨b9, 0, none⟩) n.toNat n.toNat), (.slice (some ⟨b17, 0, none⟩) n.toNat n.toNat), (.slice (some ⟨b41, 0, none⟩) n.toNat n.toNat), .int .i64 0, (.slice none 0 0), (.map (some b65))] :: .box b17 3 (arrV n fun j => .int .i64 (Deep.St.zero.met j)) :: .box b41 3 (arrV n fun j => .int .i64 (Deep.St.zero.low j)) :: .row 3 (.slice none 0 0) ([] : List Int) :: mapR Try.prog 3 (α := List (Int)) b65 [] :: .box b9 27 (arrV n (updF (updF vs ua v112) ub v119)) :: .box b4 29 [vv, vl] :: .box b2 24 [.int .i64 n, ve] :: (tl ++ rowsT n (updF (updF vs ua v112) ub v119) (updF (updF ls ua ((ls ua) ++ [2 * (L.getD i.toNat 0)])) ub (((updF ls ua ((ls ua) ++ [2 * (L.getD i.toNat 0)])) ub) ++ [(2 * (L.getD i.toNat 0)) + 1])))) := H
      refine ⟨(i + 1, updF (updF vs ua v112) ub v119, updF (updF ls ua ((ls ua) ++ [2 * (L.getD i.toNat 0)])) ub (((updF ls ua ((ls ua) ++ [2 * (L.getD i.toNat 0)])) ub) ++ [(2 * (L.getD i.toNat 0)) + 1])), ⟨env_sub _ hA, ⟨_, H⟩, ?_⟩, ?_⟩
      · (try dsimp only); exact ⟨by omega, darts_next h0 (by omega) hls ha9 hb9, darts_len hll⟩
      · (try dsimp only); omega
    · have hhb102 := of_decide_eq_false hb102
      refine go_exit 0 ?_
      refine hK94 _ _ ?_
      refine go_seq fun K124 hK124 => ?_
      refine go_seq fun K125 hK125 => ?_
      obtain ⟨S, H⟩ := rows_freeze ([.box b73 106 [.int .i64 n, ve, (.slice (some ⟨b9, 0, none⟩) n.toNat n.toNat), (.slice (some ⟨b17, 0, none⟩) n.toNat n.toNat), (.slice (some ⟨b41, 0, none⟩) n.toNat n.toNat), .int .i64 0, (.slice none 0 0), (.map (some b65))], .box b17 3 (arrV n fun j => .int .i64 (Deep.St.zero.met j)), .box b41 3 (arrV n fun j => .int .i64 (Deep.St.zero.low j)), .row 3 (.slice none 0 0) ([] : List Int), mapR Try.prog 3 (α := List (Int)) b65 [], .box b9 27 (arrV n vs), .box b4 29 [vv, vl], .box b2 24 [.int .i64 n, ve]] ++ tl) H 5 rfl (by omega)
      replace H : Fr _ _ _ (.box b73 106 [.int .i64 n, ve, (.slice (some ⟨b9, 0, none⟩) n.toNat n.toNat), (.slice (some ⟨b17, 0, none⟩) n.toNat n.toNat), (.slice (some ⟨b41, 0, none⟩) n.toNat n.toNat), .int .i64 0, (.slice none 0 0), (.map (some b65))] :: .box b17 3 (arrV n fun j => .int .i64 (Deep.St.zero.met j)) :: .box b41 3 (arrV n fun j => .int .i64 (Deep.St.zero.low j)) :: .row 3 (.slice none 0 0) ([] : List Int) :: mapR Try.prog 3 (α := List (Int)) b65 [] :: .ro (.slice (some ⟨b9, 0, none⟩) n.toNat n.toNat) ((List.range n.toNat).map fun q : Nat => ls (q : Int)) :: .box b4 29 [vv, vl] :: .box b2 24 [.int .i64 n, ve] :: tl) := H
      have hDL : ∀ x, 0 ≤ x → x < n → ((List.range n.toNat).map fun q : Nat => ls (q : Int)).getD x.toNat [] = dartsL E L x := fun x q0 q1 => by rw [range_getD q0 q1, hls x q0 q1, List.take_of_length_le (by omega)]
      have hDLn : (((List.range n.toNat).map fun q : Nat => ls (q : Int)).length : Int) = n := by simp; omega
      refine q_reg [(81, vv), (82, .int .i64 (V.length : Int))] [(5, .pointer (some ⟨b73, 0, none⟩)), (81, vv), (82, .int .i64 (V.length : Int)), (83, .int .i64 0)] ((0 < Try.prog.cellsOf 27) ∧ (CellOk (On w100) b4 (0 + 0) (vv)) ∧ (LenOk vv (V.length : Int)) ∧ (True) ∧ True) hA H ⟨by decide +kernel, by exact box_cell H 6 rfl 0, by exact len_ok (H.arg hV), trivial, trivial⟩ fun a w126 hA H hG => ?_
      refine hK125 _ _ ?_
      refine go_block 2 ?_
      refine go_loop_ (Int × Deep.St × Value × List (Int × Value × List Int)) (fun x_ a W => (fun (i : Int) (t : Deep.St) (eu : Value) (iu : List (Int × Value × List Int)) => EnvOk 100 a (keepEnv [(5, .pointer (some ⟨b73, 0, none⟩)), (81, vv), (82, .int .i64 (V.length : Int)), (83, .int .i64 i)]) ∧ (∃ S, Fr o W S (.box b73 106 [.int .i64 n, ve, (.slice (some ⟨b9, 0, none⟩) n.toNat n.toNat), (.slice (some ⟨b17, 0, none⟩) n.toNat n.toNat), (.slice (some ⟨b41, 0, none⟩) n.toNat n.toNat), .int .i64 t.cnt, eu, (.map (some b65))] :: .box b17 3 (arrV n fun j => .int .i64 (t.met j)) :: .box b41 3 (arrV n fun j => .int .i64 (t.low j)) :: .row 3 eu t.stk :: mapR Try.prog 3 (α := List Int) b65 iu :: .ro (.slice (some ⟨b9, 0, none⟩) n.toNat n.toNat) ((List.range n.toNat).map fun q : Nat => ls (q : Int)) :: .box b4 29 [vv, vl] :: .box b2 24 [.int .i64 n, ve] :: tl)) ∧ 0 ≤ i ∧ Deep.Roots (dartsL E L) (headE E) (V.drop i.toNat) t s' ∧ 0 ≤ t.cnt ∧ insOf iu = t.ins) x_.1 x_.2.1 x_.2.2.1 x_.2.2.2) (fun x_ => (fun (i : Int) (t : Deep.St) (eu : Value) (iu : List (Int × Value × List Int)) => ((V.length : Int) - i).toNat) x_.1 x_.2.1 x_.2.2.1 x_.2.2.2) (0, Deep.St.zero, .slice none 0 0, []) ?_ (fun x_ a w128 hI => ?_)
      · (try dsimp only); exact ⟨env_sub _ hA, ⟨_, H⟩, by omega, hroots, Int.le_refl _, rfl⟩
      obtain ⟨i, t, eu, iu⟩ := x_
      obtain ⟨hA, ⟨S, H⟩, h0, hst, hc, hit⟩ := hI
      try dsimp only at h0 hst hc hit
      refine go_seq fun K129 hK129 => ?_
      refine q_reg [] [(5, .pointer (some ⟨b73, 0, none⟩)), (81, vv), (82, .int .i64 (V.length : Int)), (83, .int .i64 i), (84, .bool (decide (i < (V.length : Int))))] ((True) ∧ True) hA H ⟨trivial, trivial⟩ fun a w130 hA H hG => ?_
      refine hK129 _ _ ?_
      refine go_seq fun K131 hK131 => ?_
      refine go_cond hA (.tmp 84) (decide (i < (V.length : Int))) (fun hb132 => ?_) (fun hb132 => ?_)
      · have hhb132 := of_decide_eq_true hb132
        refine go_skip ?_
        refine hK131 _ _ ?_
        refine go_seq fun K133 hK133 => ?_
        refine go_block 3 ?_
        refine go_seq fun K134 hK134 => ?_
        have hvm := hp2 i.toNat (by omega)
        rw [drop_round h0 (by omega)] at hst
        refine q_reg [(86, .int .i64 (V.getD i.toNat 0))] [(5, .pointer (some ⟨b73, 0, none⟩)), (11, .int .i64 (V.getD i.toNat 0)), (81, vv), (82, .int .i64 (V.length : Int)), (83, .int .i64 i)] (((Try.prog.info? 3).isSome = true ∧ IdxOk vv i) ∧ (CellOk (On w130) (hdB vv) (hdO vv + i.toNat * 1) (.int .i64 (V.getD i.toNat 0))) ∧ (True) ∧ True) hA H ⟨⟨by kernel_rfl, by exact idx_ok (H.arg hV) (by omega) (by omega)⟩, by exact cell_flat (i := i) (H.arg hV) (by omega) (by omega) 0 0, trivial, trivial⟩ fun a w135 hA H hG => ?_
        refine hK134 _ _ ?_
        refine go_seq fun K136 hK136 => ?_
        refine q_reg [(90, (.slice (some ⟨b17, 0, none⟩) n.toNat n.toNat)), (93, .int .i64 (t.met (V.getD i.toNat 0)))] [(5, .pointer (some ⟨b73, 0, none⟩)), (11, .int .i64 (V.getD i.toNat 0)), (81, vv), (82, .int .i64 (V.length : Int)), (83, .int .i64 i), (94, .bool (decide (t.met (V.getD i.toNat 0) = 0)))] ((True) ∧ (True) ∧ (0 < Try.prog.cellsOf 27) ∧ (CellOk (On w135) b73 (0 + 3) ((.slice (some ⟨b17, 0, none⟩) n.toNat n.toNat))) ∧ (True) ∧ ((Try.prog.info? 3).isSome = true ∧ IdxOk (.slice (some ⟨b17, 0, none⟩) n.toNat n.toNat) (V.getD i.toNat 0)) ∧ (CellOk (On w135) b17 (0 + (V.getD i.toNat 0).toNat * 1) (.int .i64 (t.met (V.getD i.toNat 0)))) ∧ (True) ∧ True) hA H ⟨trivial, trivial, by decide +kernel, by exact box_cell H 0 rfl 3, trivial, ⟨by kernel_rfl, arr_idx (by omega) (by omega)⟩, by exact arr_cell H 1 rfl (by omega) (by omega), trivial, trivial⟩ fun a w137 hA H hG => ?_
        refine hK136 _ _ ?_
        refine go_cond hA (.tmp 94) (decide (t.met (V.getD i.toNat 0) = 0)) (fun hb138 => ?_) (fun hb138 => ?_)
        · have hhb138 := of_decide_eq_true hb138
          refine region_list ?_
          refine q_list 0 2 [] [(5, .pointer (some ⟨b73, 0, none⟩)), (81, vv), (82, .int .i64 (V.length : Int)), (83, .int .i64 i), (95, .pointer (some ⟨b73, 0, none⟩)), (96, .int .i64 (V.getD i.toNat 0))] ((True) ∧ (True) ∧ True) hA H ⟨trivial, trivial, trivial⟩ fun a w139 hA H hG => ?_
          obtain ⟨s1, k9, hvis, hst2⟩ := roots_go hst hhb138
          have hb1 := Deep.roots_bd hst2 hb
          have hc2 := Deep.visit_cnt _ _ _ _ _ hvis
          refine list_at 2 ?_; refine q_any 2 97 102 #[.tmp 95, .tmp 96, .const (.int .i64 (-1))] #[107, 3, 3] [.pointer (some ⟨b73, 0, none⟩), .int .i64 (V.getD i.toNat 0), .int .i64 (-1)] (fun u9 w9 => ∃ S ev9 in9, Fr o w9 S (finR n ve (.slice (some ⟨b9, 0, none⟩) n.toNat n.toNat) ((List.range n.toNat).map fun q : Nat => ls (q : Int)) b73 b17 b41 b65 s1 ev9 in9 (.box b4 29 [vv, vl] :: .box b2 24 [.int .i64 n, ve] :: tl)) ∧ insOf in9 = s1.ins) [(5, .pointer (some ⟨b73, 0, none⟩)), (81, vv), (82, .int .i64 (V.length : Int)), (83, .int .i64 i)] hA ((visit_any n ve E L (.slice (some ⟨b9, 0, none⟩) n.toNat n.toNat) ((List.range n.toNat).map fun q : Nat => ls (q : Int)) b73 b17 b41 b65 o hp1 hp3 hE hDL hDLn k9 _ _ t s1 _ _ eu iu (.box b4 29 [vv, vl] :: .box b2 24 [.int .i64 n, ve] :: tl) hvis hb1 hc (by omega) (by omega) H hit).mono fun e9 w9 h9 => ⟨_, h9.1, h9.2⟩) fun v140 a w141 hR142 hA => ?_
          obtain ⟨S, ev2, iu2, H, hi2⟩ := hR142
          replace H : Fr _ _ _ (.box b73 106 [.int .i64 n, ve, (.slice (some ⟨b9, 0, none⟩) n.toNat n.toNat), (.slice (some ⟨b17, 0, none⟩) n.toNat n.toNat), (.slice (some ⟨b41, 0, none⟩) n.toNat n.toNat), .int .i64 s1.cnt, ev2, (.map (some b65))] :: .box b17 3 (arrV n fun j => .int .i64 (s1.met j)) :: .box b41 3 (arrV n fun j => .int .i64 (s1.low j)) :: .row 3 ev2 s1.stk :: mapR Try.prog 3 (α := List Int) b65 iu2 :: .ro (.slice (some ⟨b9, 0, none⟩) n.toNat n.toNat) ((List.range n.toNat).map fun q : Nat => ls (q : Int)) :: .box b4 29 [vv, vl] :: .box b2 24 [.int .i64 n, ve] :: tl) := H
          refine list_end ?_
          refine hK133 _ _ ?_
          refine q_reg [] [(5, .pointer (some ⟨b73, 0, none⟩)), (81, vv), (82, .int .i64 (V.length : Int)), (83, .int .i64 (i + 1))] ((InR .i64 (i + 1)) ∧ (True) ∧ True) hA H ⟨⟨by omega, by omega⟩, trivial, trivial⟩ fun a w143 hA H hG => ?_
          refine ⟨(i + 1, s1, ev2, iu2), ⟨env_sub _ hA, ⟨_, H⟩, ?_⟩, ?_⟩
          · (try dsimp only); exact ⟨by omega, hst2, by omega, hi2⟩
          · (try dsimp only); omega
        · have hhb138 := of_decide_eq_false hb138
          refine go_skip ?_
          refine hK133 _ _ ?_
          refine q_reg [] [(5, .pointer (some ⟨b73, 0, none⟩)), (81, vv), (82, .int .i64 (V.length : Int)), (83, .int .i64 (i + 1))] ((InR .i64 (i + 1)) ∧ (True) ∧ True) hA H ⟨⟨by omega, by omega⟩, trivial, trivial⟩ fun a w144 hA H hG => ?_
          refine ⟨(i + 1, t, eu, iu), ⟨env_sub _ hA, ⟨_, H⟩, ?_⟩, ?_⟩
          · (try dsimp only); exact ⟨by omega, roots_met hst hhb138, hc, hit⟩
          · (try dsimp only); omega
      · have hhb132 := of_decide_eq_false hb132
        refine go_exit 2 ?_
        refine hK124 _ _ ?_
        refine go_seq fun K145 hK145 => ?_
        refine q_reg [] [(4, .pointer (some ⟨b73, 0, none⟩))] ((True) ∧ (True) ∧ True) hA H ⟨trivial, trivial, trivial⟩ fun a w146 hA H hG => ?_
        refine hK145 _ _ ?_
        refine go_ret_ ?_
        refine ret_one 4 (.pointer (some ⟨b73, 0, none⟩)) hA ?_
        rw [drop_end (by omega)] at hst; cases roots_nil hst
        replace H := H.drop 7
        replace H := H.drop 6
        exact ⟨b73, b17, b41, b65, _, _, _, _, _, rfl, H, hit⟩
  have hM76 : ∀ (a : Act) (w147 : World) (S : Stab) (b9 : Nat) (hge_b9 : w6.heap.size ≤ b9) (b17 : Nat) (hge_b17 : w6.heap.size ≤ b17) (b41 : Nat) (hge_b41 : w6.heap.size ≤ b41) (b65 : Nat) (hge_b65 : w6.heap.size ≤ b65), EnvOk 100 a (keepEnv [(2, .pointer (some ⟨b2, 0, none⟩)), (3, .pointer (some ⟨b4, 0, none⟩)), (23, .agg #[.int .i64 n, ve, (.slice (some ⟨b9, 0, none⟩) n.toNat n.toNat), (.slice (some ⟨b17, 0, none⟩) n.toNat n.toNat), (.slice (some ⟨b41, 0, none⟩) n.toNat n.toNat), .int .i64 0, (.slice none 0 0), (.map (some b65))])]) → Fr o w147 S (mapR Try.prog 3 (α := List (Int)) b65 [] :: .box b41 3 (arrV n fun j => .int .i64 (Deep.St.zero.low j)) :: .box b17 3 (arrV n fun j => .int .i64 (Deep.St.zero.met j)) :: .box b9 27 (arrV n (fun _ => .slice none 0 0)) :: .box b4 29 [vv, vl] :: .box b2 24 [.int .i64 n, ve] :: tl) → But w6 none w147 → M 2 #[true, true, true, true, true, true, true, true, true, true, true, true, false, false] a w147 := by
    intro a w147 S b9 hge_b9 b17 hge_b17 b41 hge_b41 b65 hge_b65 hA H hD
    refine (hM _ _ _ _).2 ?_
    refine m_one 12 ?_; refine q_box 12 24 106 (.tmp 23) (.agg #[.int .i64 n, ve, (.slice (some ⟨b9, 0, none⟩) n.toNat n.toNat), (.slice (some ⟨b17, 0, none⟩) n.toNat n.toNat), (.slice (some ⟨b41, 0, none⟩) n.toNat n.toNat), .int .i64 0, (.slice none 0 0), (.map (some b65))]) [.int .i64 n, ve, (.slice (some ⟨b9, 0, none⟩) n.toNat n.toNat), (.slice (some ⟨b17, 0, none⟩) n.toNat n.toNat), (.slice (some ⟨b41, 0, none⟩) n.toNat n.toNat), .int .i64 0, (.slice none 0 0), (.map (some b65))] [(2, .pointer (some ⟨b2, 0, none⟩)), (3, .pointer (some ⟨b4, 0, none⟩))] hA H fun b148 a w149 H hA hG hge_b148 => ?_
    replace hge_b148 := Nat.le_trans hD.1 hge_b148
    replace hD := hD.below hG
    refine ⟨fun _ => hD, ?_⟩
    exact (hM _ _ _ _).1 (hM75 _ _ _ b9 hge_b9 b17 hge_b17 b41 hge_b41 b65 hge_b65 b148 hge_b148 (env_sub _ hA) H hD)
  have hM77 : ∀ (a : Act) (w150 : World) (S : Stab) (b9 : Nat) (hge_b9 : w6.heap.size ≤ b9) (b17 : Nat) (hge_b17 : w6.heap.size ≤ b17) (b41 : Nat) (hge_b41 : w6.heap.size ≤ b41), EnvOk 100 a (keepEnv [(2, .pointer (some ⟨b2, 0, none⟩)), (3, .pointer (some ⟨b4, 0, none⟩)), (12, .agg #[.int .i64 n, ve]), (15, (.slice (some ⟨b9, 0, none⟩) n.toNat n.toNat)), (18, (.slice (some ⟨b17, 0, none⟩) n.toNat n.toNat)), (21, (.slice (some ⟨b41, 0, none⟩) n.toNat n.toNat))]) → Fr o w150 S (.box b41 3 (arrV n fun j => .int .i64 (Deep.St.zero.low j)) :: .box b17 3 (arrV n fun j => .int .i64 (Deep.St.zero.met j)) :: .box b9 27 (arrV n (fun _ => .slice none 0 0)) :: .box b4 29 [vv, vl] :: .box b2 24 [.int .i64 n, ve] :: tl) → But w6 none w150 → M 4 #[true, true, true, true, true, true, true, true, true, true, false, false, false, false] a w150 := by
    intro a w150 S b9 hge_b9 b17 hge_b17 b41 hge_b41 hA H hD
    refine (hM _ _ _ _).2 ?_
    refine m_one 10 ?_; refine q_makeMap (List (Int)) 3 10 22 104 [(2, .pointer (some ⟨b2, 0, none⟩)), (3, .pointer (some ⟨b4, 0, none⟩)), (12, .agg #[.int .i64 n, ve]), (15, (.slice (some ⟨b9, 0, none⟩) n.toNat n.toNat)), (18, (.slice (some ⟨b17, 0, none⟩) n.toNat n.toNat)), (21, (.slice (some ⟨b41, 0, none⟩) n.toNat n.toNat))] hA H fun b151 a w152 H hA hG hge_b151 => ?_
    replace hge_b151 := Nat.le_trans hD.1 hge_b151
    replace hD := hD.below hG
    refine ⟨fun _ => hD, ?_⟩
    refine m_take (n := 2) [11] #[true, true, true, true, true, true, true, true, true, true, true, true, false, false] [(23, .agg #[.int .i64 n, ve, (.slice (some ⟨b9, 0, none⟩) n.toNat n.toNat), (.slice (some ⟨b17, 0, none⟩) n.toNat n.toNat), (.slice (some ⟨b41, 0, none⟩) n.toNat n.toNat), .int .i64 0, (.slice none 0 0), (.map (some b151))])] [(2, .pointer (some ⟨b2, 0, none⟩)), (3, .pointer (some ⟨b4, 0, none⟩)), (23, .agg #[.int .i64 n, ve, (.slice (some ⟨b9, 0, none⟩) n.toNat n.toNat), (.slice (some ⟨b17, 0, none⟩) n.toNat n.toNat), (.slice (some ⟨b41, 0, none⟩) n.toNat n.toNat), .int .i64 0, (.slice none 0 0), (.map (some b151))])] ((∀ w, (Instr.build 106 #[(0, .agg #[.int .i64 n, ve]), (1, (.slice (some ⟨b9, 0, none⟩) n.toNat n.toNat)), (2, (.slice (some ⟨b17, 0, none⟩) n.toNat n.toNat)), (3, (.slice (some ⟨b41, 0, none⟩) n.toNat n.toNat)), (6, (.map (some b151)))]).run Try.prog w = .ok (.agg #[.int .i64 n, ve, (.slice (some ⟨b9, 0, none⟩) n.toNat n.toNat), (.slice (some ⟨b17, 0, none⟩) n.toNat n.toNat), (.slice (some ⟨b41, 0, none⟩) n.toNat n.toNat), .int .i64 0, (.slice none 0 0), (.map (some b151))]) w) ∧ True) hA hD ⟨fun w => by obtain ⟨_, _, _, e0⟩ := rd_form (H0.argT hE); rw [e0]; kernel_rfl, trivial⟩ fun a hA => ?_
    exact (hM _ _ _ _).1 (hM76 _ _ _ b9 hge_b9 b17 hge_b17 b41 hge_b41 b151 hge_b151 (env_sub _ hA) H hD)
  have hM78 : ∀ (a : Act) (w153 : World) (S : Stab) (b9 : Nat) (hge_b9 : w6.heap.size ≤ b9) (b17 : Nat) (hge_b17 : w6.heap.size ≤ b17) (b43 : Nat) (hge_b43 : w6.heap.size ≤ b43), EnvOk 100 a (keepEnv [(2, .pointer (some ⟨b2, 0, none⟩)), (3, .pointer (some ⟨b4, 0, none⟩)), (12, .agg #[.int .i64 n, ve]), (15, (.slice (some ⟨b9, 0, none⟩) n.toNat n.toNat)), (18, (.slice (some ⟨b17, 0, none⟩) n.toNat n.toNat)), (20, .int .i64 n), (22, (.map (some b43)))]) → Fr o w153 S (mapR Try.prog 3 (α := List (Int)) b43 [] :: .box b17 3 (arrV n fun j => .int .i64 (Deep.St.zero.met j)) :: .box b9 27 (arrV n (fun _ => .slice none 0 0)) :: .box b4 29 [vv, vl] :: .box b2 24 [.int .i64 n, ve] :: tl) → But w6 none w153 → M 4 #[true, true, true, true, true, true, true, true, true, false, true, false, false, false] a w153 := by
    intro a w153 S b9 hge_b9 b17 hge_b17 b43 hge_b43 hA H hD
    refine (hM _ _ _ _).2 ?_
    refine m_one 9 ?_; refine q_makeA 9 21 27 (.tmp 20) 3 n (.int .i64 0) [(2, .pointer (some ⟨b2, 0, none⟩)), (3, .pointer (some ⟨b4, 0, none⟩)), (12, .agg #[.int .i64 n, ve]), (15, (.slice (some ⟨b9, 0, none⟩) n.toNat n.toNat)), (18, (.slice (some ⟨b17, 0, none⟩) n.toNat n.toNat)), (22, (.map (some b43)))] hA H Try.underlying27 (make_info (by kernel_rfl)) (by omega) (by omega) fun b154 a w155 H hA hG hge_b154 => ?_
    replace hge_b154 := Nat.le_trans hD.1 hge_b154
    replace H : Fr _ _ _ (mapR Try.prog 3 (α := List (Int)) b43 [] :: .box b154 3 (arrV n fun j => .int .i64 (Deep.St.zero.low j)) :: .box b17 3 (arrV n fun j => .int .i64 (Deep.St.zero.met j)) :: .box b9 27 (arrV n (fun _ => .slice none 0 0)) :: .box b4 29 [vv, vl] :: .box b2 24 [.int .i64 n, ve] :: tl) := H.sink 1 1
    replace hD := hD.below hG
    refine ⟨fun _ => hD, ?_⟩
    refine m_take (n := 2) [11] #[true, true, true, true, true, true, true, true, true, true, true, true, false, false] [(23, .agg #[.int .i64 n, ve, (.slice (some ⟨b9, 0, none⟩) n.toNat n.toNat), (.slice (some ⟨b17, 0, none⟩) n.toNat n.toNat), (.slice (some ⟨b154, 0, none⟩) n.toNat n.toNat), .int .i64 0, (.slice none 0 0), (.map (some b43))])] [(2, .pointer (some ⟨b2, 0, none⟩)), (3, .pointer (some ⟨b4, 0, none⟩)), (23, .agg #[.int .i64 n, ve, (.slice (some ⟨b9, 0, none⟩) n.toNat n.toNat), (.slice (some ⟨b17, 0, none⟩) n.toNat n.toNat), (.slice (some ⟨b154, 0, none⟩) n.toNat n.toNat), .int .i64 0, (.slice none 0 0), (.map (some b43))])] ((∀ w, (Instr.build 106 #[(0, .agg #[.int .i64 n, ve]), (1, (.slice (some ⟨b9, 0, none⟩) n.toNat n.toNat)), (2, (.slice (some ⟨b17, 0, none⟩) n.toNat n.toNat)), (3, (.slice (some ⟨b154, 0, none⟩) n.toNat n.toNat)), (6, (.map (some b43)))]).run Try.prog w = .ok (.agg #[.int .i64 n, ve, (.slice (some ⟨b9, 0, none⟩) n.toNat n.toNat), (.slice (some ⟨b17, 0, none⟩) n.toNat n.toNat), (.slice (some ⟨b154, 0, none⟩) n.toNat n.toNat), .int .i64 0, (.slice none 0 0), (.map (some b43))]) w) ∧ True) hA hD ⟨fun w => by obtain ⟨_, _, _, e0⟩ := rd_form (H0.argT hE); rw [e0]; kernel_rfl, trivial⟩ fun a hA => ?_
    exact (hM _ _ _ _).1 (hM76 _ _ _ b9 hge_b9 b17 hge_b17 b154 hge_b154 b43 hge_b43 (env_sub _ hA) H hD)
  have hM79 : ∀ (a : Act) (w156 : World) (S : Stab) (b9 : Nat) (hge_b9 : w6.heap.size ≤ b9) (b19 : Nat) (hge_b19 : w6.heap.size ≤ b19) (b47 : Nat) (hge_b47 : w6.heap.size ≤ b47), EnvOk 100 a (keepEnv [(2, .pointer (some ⟨b2, 0, none⟩)), (3, .pointer (some ⟨b4, 0, none⟩)), (12, .agg #[.int .i64 n, ve]), (15, (.slice (some ⟨b9, 0, none⟩) n.toNat n.toNat)), (17, .int .i64 n), (21, (.slice (some ⟨b19, 0, none⟩) n.toNat n.toNat)), (22, (.map (some b47)))]) → Fr o w156 S (mapR Try.prog 3 (α := List (Int)) b47 [] :: .box b19 3 (arrV n fun j => .int .i64 (Deep.St.zero.low j)) :: .box b9 27 (arrV n (fun _ => .slice none 0 0)) :: .box b4 29 [vv, vl] :: .box b2 24 [.int .i64 n, ve] :: tl) → But w6 none w156 → M 4 #[true, true, true, true, true, true, false, true, true, true, true, false, false, false] a w156 := by
    intro a w156 S b9 hge_b9 b19 hge_b19 b47 hge_b47 hA H hD
    refine (hM _ _ _ _).2 ?_
    refine m_one 6 ?_; refine q_makeA 6 18 27 (.tmp 17) 3 n (.int .i64 0) [(2, .pointer (some ⟨b2, 0, none⟩)), (3, .pointer (some ⟨b4, 0, none⟩)), (12, .agg #[.int .i64 n, ve]), (15, (.slice (some ⟨b9, 0, none⟩) n.toNat n.toNat)), (21, (.slice (some ⟨b19, 0, none⟩) n.toNat n.toNat)), (22, (.map (some b47)))] hA H Try.underlying27 (make_info (by kernel_rfl)) (by omega) (by omega) fun b157 a w158 H hA hG hge_b157 => ?_
    replace hge_b157 := Nat.le_trans hD.1 hge_b157
    replace H : Fr _ _ _ (mapR Try.prog 3 (α := List (Int)) b47 [] :: .box b19 3 (arrV n fun j => .int .i64 (Deep.St.zero.low j)) :: .box b157 3 (arrV n fun j => .int .i64 (Deep.St.zero.met j)) :: .box b9 27 (arrV n (fun _ => .slice none 0 0)) :: .box b4 29 [vv, vl] :: .box b2 24 [.int .i64 n, ve] :: tl) := H.sink 1 2
    replace hD := hD.below hG
    refine ⟨fun _ => hD, ?_⟩
    refine m_take (n := 2) [11] #[true, true, true, true, true, true, true, true, true, true, true, true, false, false] [(23, .agg #[.int .i64 n, ve, (.slice (some ⟨b9, 0, none⟩) n.toNat n.toNat), (.slice (some ⟨b157, 0, none⟩) n.toNat n.toNat), (.slice (some ⟨b19, 0, none⟩) n.toNat n.toNat), .int .i64 0, (.slice none 0 0), (.map (some b47))])] [(2, .pointer (some ⟨b2, 0, none⟩)), (3, .pointer (some ⟨b4, 0, none⟩)), (23, .agg #[.int .i64 n, ve, (.slice (some ⟨b9, 0, none⟩) n.toNat n.toNat), (.slice (some ⟨b157, 0, none⟩) n.toNat n.toNat), (.slice (some ⟨b19, 0, none⟩) n.toNat n.toNat), .int .i64 0, (.slice none 0 0), (.map (some b47))])] ((∀ w, (Instr.build 106 #[(0, .agg #[.int .i64 n, ve]), (1, (.slice (some ⟨b9, 0, none⟩) n.toNat n.toNat)), (2, (.slice (some ⟨b157, 0, none⟩) n.toNat n.toNat)), (3, (.slice (some ⟨b19, 0, none⟩) n.toNat n.toNat)), (6, (.map (some b47)))]).run Try.prog w = .ok (.agg #[.int .i64 n, ve, (.slice (some ⟨b9, 0, none⟩) n.toNat n.toNat), (.slice (some ⟨b157, 0, none⟩) n.toNat n.toNat), (.slice (some ⟨b19, 0, none⟩) n.toNat n.toNat), .int .i64 0, (.slice none 0 0), (.map (some b47))]) w) ∧ True) hA hD ⟨fun w => by obtain ⟨_, _, _, e0⟩ := rd_form (H0.argT hE); rw [e0]; kernel_rfl, trivial⟩ fun a hA => ?_
    exact (hM _ _ _ _).1 (hM76 _ _ _ b9 hge_b9 b157 hge_b157 b19 hge_b19 b47 hge_b47 (env_sub _ hA) H hD)
  have hM80 : ∀ (a : Act) (w159 : World) (S : Stab) (b11 : Nat) (hge_b11 : w6.heap.size ≤ b11) (b25 : Nat) (hge_b25 : w6.heap.size ≤ b25) (b55 : Nat) (hge_b55 : w6.heap.size ≤ b55), EnvOk 100 a (keepEnv [(2, .pointer (some ⟨b2, 0, none⟩)), (3, .pointer (some ⟨b4, 0, none⟩)), (12, .agg #[.int .i64 n, ve]), (14, .int .i64 n), (18, (.slice (some ⟨b11, 0, none⟩) n.toNat n.toNat)), (21, (.slice (some ⟨b25, 0, none⟩) n.toNat n.toNat)), (22, (.map (some b55)))]) → Fr o w159 S (mapR Try.prog 3 (α := List (Int)) b55 [] :: .box b25 3 (arrV n fun j => .int .i64 (Deep.St.zero.low j)) :: .box b11 3 (arrV n fun j => .int .i64 (Deep.St.zero.met j)) :: .box b4 29 [vv, vl] :: .box b2 24 [.int .i64 n, ve] :: tl) → But w6 none w159 → M 4 #[true, true, true, false, true, true, true, true, true, true, true, false, false, false] a w159 := by
    intro a w159 S b11 hge_b11 b25 hge_b25 b55 hge_b55 hA H hD
    refine (hM _ _ _ _).2 ?_
    refine m_one 3 ?_; refine q_makeA 3 15 67 (.tmp 14) 27 n (.slice none 0 0) [(2, .pointer (some ⟨b2, 0, none⟩)), (3, .pointer (some ⟨b4, 0, none⟩)), (12, .agg #[.int .i64 n, ve]), (18, (.slice (some ⟨b11, 0, none⟩) n.toNat n.toNat)), (21, (.slice (some ⟨b25, 0, none⟩) n.toNat n.toNat)), (22, (.map (some b55)))] hA H Try.underlying67 (make_info (by kernel_rfl)) (by omega) (by omega) fun b160 a w161 H hA hG hge_b160 => ?_
    replace hge_b160 := Nat.le_trans hD.1 hge_b160
    replace H : Fr _ _ _ (mapR Try.prog 3 (α := List (Int)) b55 [] :: .box b25 3 (arrV n fun j => .int .i64 (Deep.St.zero.low j)) :: .box b11 3 (arrV n fun j => .int .i64 (Deep.St.zero.met j)) :: .box b160 27 (arrV n (fun _ => .slice none 0 0)) :: .box b4 29 [vv, vl] :: .box b2 24 [.int .i64 n, ve] :: tl) := H.sink 1 3
    replace hD := hD.below hG
    refine ⟨fun _ => hD, ?_⟩
    refine m_take (n := 2) [11] #[true, true, true, true, true, true, true, true, true, true, true, true, false, false] [(23, .agg #[.int .i64 n, ve, (.slice (some ⟨b160, 0, none⟩) n.toNat n.toNat), (.slice (some ⟨b11, 0, none⟩) n.toNat n.toNat), (.slice (some ⟨b25, 0, none⟩) n.toNat n.toNat), .int .i64 0, (.slice none 0 0), (.map (some b55))])] [(2, .pointer (some ⟨b2, 0, none⟩)), (3, .pointer (some ⟨b4, 0, none⟩)), (23, .agg #[.int .i64 n, ve, (.slice (some ⟨b160, 0, none⟩) n.toNat n.toNat), (.slice (some ⟨b11, 0, none⟩) n.toNat n.toNat), (.slice (some ⟨b25, 0, none⟩) n.toNat n.toNat), .int .i64 0, (.slice none 0 0), (.map (some b55))])] ((∀ w, (Instr.build 106 #[(0, .agg #[.int .i64 n, ve]), (1, (.slice (some ⟨b160, 0, none⟩) n.toNat n.toNat)), (2, (.slice (some ⟨b11, 0, none⟩) n.toNat n.toNat)), (3, (.slice (some ⟨b25, 0, none⟩) n.toNat n.toNat)), (6, (.map (some b55)))]).run Try.prog w = .ok (.agg #[.int .i64 n, ve, (.slice (some ⟨b160, 0, none⟩) n.toNat n.toNat), (.slice (some ⟨b11, 0, none⟩) n.toNat n.toNat), (.slice (some ⟨b25, 0, none⟩) n.toNat n.toNat), .int .i64 0, (.slice none 0 0), (.map (some b55))]) w) ∧ True) hA hD ⟨fun w => by obtain ⟨_, _, _, e0⟩ := rd_form (H0.argT hE); rw [e0]; kernel_rfl, trivial⟩ fun a hA => ?_
    exact (hM _ _ _ _).1 (hM76 _ _ _ b160 hge_b160 b11 hge_b11 b25 hge_b25 b55 hge_b55 (env_sub _ hA) H hD)
  have hM81 : ∀ (a : Act) (w162 : World) (S : Stab) (b9 : Nat) (hge_b9 : w6.heap.size ≤ b9) (b17 : Nat) (hge_b17 : w6.heap.size ≤ b17), EnvOk 100 a (keepEnv [(2, .pointer (some ⟨b2, 0, none⟩)), (3, .pointer (some ⟨b4, 0, none⟩)), (12, .agg #[.int .i64 n, ve]), (15, (.slice (some ⟨b9, 0, none⟩) n.toNat n.toNat)), (18, (.slice (some ⟨b17, 0, none⟩) n.toNat n.toNat)), (20, .int .i64 n)]) → Fr o w162 S (.box b17 3 (arrV n fun j => .int .i64 (Deep.St.zero.met j)) :: .box b9 27 (arrV n (fun _ => .slice none 0 0)) :: .box b4 29 [vv, vl] :: .box b2 24 [.int .i64 n, ve] :: tl) → But w6 none w162 → M 5 #[true, true, true, true, true, true, true, true, true, false, false, false, false, false] a w162 := by
    intro a w162 S b9 hge_b9 b17 hge_b17 hA H hD
    refine (hM _ _ _ _).2 ?_
    refine m_many [9, 10] fun i_ hi_ => ?_
    simp only [List.mem_cons, List.not_mem_nil, or_false] at hi_
    rcases hi_ with rfl | rfl
    · skip
      refine q_makeA 9 21 27 (.tmp 20) 3 n (.int .i64 0) [(2, .pointer (some ⟨b2, 0, none⟩)), (3, .pointer (some ⟨b4, 0, none⟩)), (12, .agg #[.int .i64 n, ve]), (15, (.slice (some ⟨b9, 0, none⟩) n.toNat n.toNat)), (18, (.slice (some ⟨b17, 0, none⟩) n.toNat n.toNat))] hA H Try.underlying27 (make_info (by kernel_rfl)) (by omega) (by omega) fun b163 a w164 H hA hG hge_b163 => ?_
      replace hge_b163 := Nat.le_trans hD.1 hge_b163
      replace hD := hD.below hG
      refine ⟨fun _ => hD, ?_⟩
      exact (hM _ _ _ _).1 (hM77 _ _ _ b9 hge_b9 b17 hge_b17 b163 hge_b163 (env_sub _ hA) H hD)
    · skip
      refine q_makeMap (List (Int)) 3 10 22 104 [(2, .pointer (some ⟨b2, 0, none⟩)), (3, .pointer (some ⟨b4, 0, none⟩)), (12, .agg #[.int .i64 n, ve]), (15, (.slice (some ⟨b9, 0, none⟩) n.toNat n.toNat)), (18, (.slice (some ⟨b17, 0, none⟩) n.toNat n.toNat)), (20, .int .i64 n)] hA H fun b165 a w166 H hA hG hge_b165 => ?_
      replace hge_b165 := Nat.le_trans hD.1 hge_b165
      replace hD := hD.below hG
      refine ⟨fun _ => hD, ?_⟩
      exact (hM _ _ _ _).1 (hM78 _ _ _ b9 hge_b9 b17 hge_b17 b165 hge_b165 (env_sub _ hA) H hD)
  have hM82 : ∀ (a : Act) (w167 : World) (S : Stab) (b9 : Nat) (hge_b9 : w6.heap.size ≤ b9) (b19 : Nat) (hge_b19 : w6.heap.size ≤ b19), EnvOk 100 a (keepEnv [(2, .pointer (some ⟨b2, 0, none⟩)), (3, .pointer (some ⟨b4, 0, none⟩)), (12, .agg #[.int .i64 n, ve]), (15, (.slice (some ⟨b9, 0, none⟩) n.toNat n.toNat)), (17, .int .i64 n), (21, (.slice (some ⟨b19, 0, none⟩) n.toNat n.toNat))]) → Fr o w167 S (.box b19 3 (arrV n fun j => .int .i64 (Deep.St.zero.low j)) :: .box b9 27 (arrV n (fun _ => .slice none 0 0)) :: .box b4 29 [vv, vl] :: .box b2 24 [.int .i64 n, ve] :: tl) → But w6 none w167 → M 5 #[true, true, true, true, true, true, false, true, true, true, false, false, false, false] a w167 := by
    intro a w167 S b9 hge_b9 b19 hge_b19 hA H hD
    refine (hM _ _ _ _).2 ?_
    refine m_many [6, 10] fun i_ hi_ => ?_
    simp only [List.mem_cons, List.not_mem_nil, or_false] at hi_
    rcases hi_ with rfl | rfl
    · skip
      refine q_makeA 6 18 27 (.tmp 17) 3 n (.int .i64 0) [(2, .pointer (some ⟨b2, 0, none⟩)), (3, .pointer (some ⟨b4, 0, none⟩)), (12, .agg #[.int .i64 n, ve]), (15, (.slice (some ⟨b9, 0, none⟩) n.toNat n.toNat)), (21, (.slice (some ⟨b19, 0, none⟩) n.toNat n.toNat))] hA H Try.underlying27 (make_info (by kernel_rfl)) (by omega) (by omega) fun b168 a w169 H hA hG hge_b168 => ?_
      replace hge_b168 := Nat.le_trans hD.1 hge_b168
      replace H : Fr _ _ _ (.box b19 3 (arrV n fun j => .int .i64 (Deep.St.zero.low j)) :: .box b168 3 (arrV n fun j => .int .i64 (Deep.St.zero.met j)) :: .box b9 27 (arrV n (fun _ => .slice none 0 0)) :: .box b4 29 [vv, vl] :: .box b2 24 [.int .i64 n, ve] :: tl) := H.sink 1 1
      replace hD := hD.below hG
      refine ⟨fun _ => hD, ?_⟩
      exact (hM _ _ _ _).1 (hM77 _ _ _ b9 hge_b9 b168 hge_b168 b19 hge_b19 (env_sub _ hA) H hD)
    · skip
      refine q_makeMap (List (Int)) 3 10 22 104 [(2, .pointer (some ⟨b2, 0, none⟩)), (3, .pointer (some ⟨b4, 0, none⟩)), (12, .agg #[.int .i64 n, ve]), (15, (.slice (some ⟨b9, 0, none⟩) n.toNat n.toNat)), (17, .int .i64 n), (21, (.slice (some ⟨b19, 0, none⟩) n.toNat n.toNat))] hA H fun b170 a w171 H hA hG hge_b170 => ?_
      replace hge_b170 := Nat.le_trans hD.1 hge_b170
      replace hD := hD.below hG
      refine ⟨fun _ => hD, ?_⟩
      exact (hM _ _ _ _).1 (hM79 _ _ _ b9 hge_b9 b19 hge_b19 b170 hge_b170 (env_sub _ hA) H hD)
  have hM83 : ∀ (a : Act) (w172 : World) (S : Stab) (b9 : Nat) (hge_b9 : w6.heap.size ≤ b9) (b21 : Nat) (hge_b21 : w6.heap.size ≤ b21), EnvOk 100 a (keepEnv [(2, .pointer (some ⟨b2, 0, none⟩)), (3, .pointer (some ⟨b4, 0, none⟩)), (12, .agg #[.int .i64 n, ve]), (15, (.slice (some ⟨b9, 0, none⟩) n.toNat n.toNat)), (17, .int .i64 n), (20, .int .i64 n), (22, (.map (some b21)))]) → Fr o w172 S (mapR Try.prog 3 (α := List (Int)) b21 [] :: .box b9 27 (arrV n (fun _ => .slice none 0 0)) :: .box b4 29 [vv, vl] :: .box b2 24 [.int .i64 n, ve] :: tl) → But w6 none w172 → M 5 #[true, true, true, true, true, true, false, true, true, false, true, false, false, false] a w172 := by
    intro a w172 S b9 hge_b9 b21 hge_b21 hA H hD
    refine (hM _ _ _ _).2 ?_
    refine m_many [6, 9] fun i_ hi_ => ?_
    simp only [List.mem_cons, List.not_mem_nil, or_false] at hi_
    rcases hi_ with rfl | rfl
    · skip
      refine q_makeA 6 18 27 (.tmp 17) 3 n (.int .i64 0) [(2, .pointer (some ⟨b2, 0, none⟩)), (3, .pointer (some ⟨b4, 0, none⟩)), (12, .agg #[.int .i64 n, ve]), (15, (.slice (some ⟨b9, 0, none⟩) n.toNat n.toNat)), (20, .int .i64 n), (22, (.map (some b21)))] hA H Try.underlying27 (make_info (by kernel_rfl)) (by omega) (by omega) fun b173 a w174 H hA hG hge_b173 => ?_
      replace hge_b173 := Nat.le_trans hD.1 hge_b173
      replace H : Fr _ _ _ (mapR Try.prog 3 (α := List (Int)) b21 [] :: .box b173 3 (arrV n fun j => .int .i64 (Deep.St.zero.met j)) :: .box b9 27 (arrV n (fun _ => .slice none 0 0)) :: .box b4 29 [vv, vl] :: .box b2 24 [.int .i64 n, ve] :: tl) := H.sink 1 1
      replace hD := hD.below hG
      refine ⟨fun _ => hD, ?_⟩
      exact (hM _ _ _ _).1 (hM78 _ _ _ b9 hge_b9 b173 hge_b173 b21 hge_b21 (env_sub _ hA) H hD)
    · skip
      refine q_makeA 9 21 27 (.tmp 20) 3 n (.int .i64 0) [(2, .pointer (some ⟨b2, 0, none⟩)), (3, .pointer (some ⟨b4, 0, none⟩)), (12, .agg #[.int .i64 n, ve]), (15, (.slice (some ⟨b9, 0, none⟩) n.toNat n.toNat)), (17, .int .i64 n), (22, (.map (some b21)))] hA H Try.underlying27 (make_info (by kernel_rfl)) (by omega) (by omega) fun b175 a w176 H hA hG hge_b175 => ?_
      replace hge_b175 := Nat.le_trans hD.1 hge_b175
      replace H : Fr _ _ _ (mapR Try.prog 3 (α := List (Int)) b21 [] :: .box b175 3 (arrV n fun j => .int .i64 (Deep.St.zero.low j)) :: .box b9 27 (arrV n (fun _ => .slice none 0 0)) :: .box b4 29 [vv, vl] :: .box b2 24 [.int .i64 n, ve] :: tl) := H.sink 1 1
      replace hD := hD.below hG
      refine ⟨fun _ => hD, ?_⟩
      exact (hM _ _ _ _).1 (hM79 _ _ _ b9 hge_b9 b175 hge_b175 b21 hge_b21 (env_sub _ hA) H hD)
  have hM84 : ∀ (a : Act) (w177 : World) (S : Stab) (b11 : Nat) (hge_b11 : w6.heap.size ≤ b11) (b25 : Nat) (hge_b25 : w6.heap.size ≤ b25), EnvOk 100 a (keepEnv [(2, .pointer (some ⟨b2, 0, none⟩)), (3, .pointer (some ⟨b4, 0, none⟩)), (12, .agg #[.int .i64 n, ve]), (14, .int .i64 n), (18, (.slice (some ⟨b11, 0, none⟩) n.toNat n.toNat)), (21, (.slice (some ⟨b25, 0, none⟩) n.toNat n.toNat))]) → Fr o w177 S (.box b25 3 (arrV n fun j => .int .i64 (Deep.St.zero.low j)) :: .box b11 3 (arrV n fun j => .int .i64 (Deep.St.zero.met j)) :: .box b4 29 [vv, vl] :: .box b2 24 [.int .i64 n, ve] :: tl) → But w6 none w177 → M 5 #[true, true, true, false, true, true, true, true, true, true, false, false, false, false] a w177 := by
    intro a w177 S b11 hge_b11 b25 hge_b25 hA H hD
    refine (hM _ _ _ _).2 ?_
    refine m_many [3, 10] fun i_ hi_ => ?_
    simp only [List.mem_cons, List.not_mem_nil, or_false] at hi_
    rcases hi_ with rfl | rfl
    · skip
      refine q_makeA 3 15 67 (.tmp 14) 27 n (.slice none 0 0) [(2, .pointer (some ⟨b2, 0, none⟩)), (3, .pointer (some ⟨b4, 0, none⟩)), (12, .agg #[.int .i64 n, ve]), (18, (.slice (some ⟨b11, 0, none⟩) n.toNat n.toNat)), (21, (.slice (some ⟨b25, 0, none⟩) n.toNat n.toNat))] hA H Try.underlying67 (make_info (by kernel_rfl)) (by omega) (by omega) fun b178 a w179 H hA hG hge_b178 => ?_
      replace hge_b178 := Nat.le_trans hD.1 hge_b178
      replace H : Fr _ _ _ (.box b25 3 (arrV n fun j => .int .i64 (Deep.St.zero.low j)) :: .box b11 3 (arrV n fun j => .int .i64 (Deep.St.zero.met j)) :: .box b178 27 (arrV n (fun _ => .slice none 0 0)) :: .box b4 29 [vv, vl] :: .box b2 24 [.int .i64 n, ve] :: tl) := H.sink 1 2
      replace hD := hD.below hG
      refine ⟨fun _ => hD, ?_⟩
      exact (hM _ _ _ _).1 (hM77 _ _ _ b178 hge_b178 b11 hge_b11 b25 hge_b25 (env_sub _ hA) H hD)
    · skip
      refine q_makeMap (List (Int)) 3 10 22 104 [(2, .pointer (some ⟨b2, 0, none⟩)), (3, .pointer (some ⟨b4, 0, none⟩)), (12, .agg #[.int .i64 n, ve]), (14, .int .i64 n), (18, (.slice (some ⟨b11, 0, none⟩) n.toNat n.toNat)), (21, (.slice (some ⟨b25, 0, none⟩) n.toNat n.toNat))] hA H fun b180 a w181 H hA hG hge_b180 => ?_
      replace hge_b180 := Nat.le_trans hD.1 hge_b180
      replace hD := hD.below hG
      refine ⟨fun _ => hD, ?_⟩
      exact (hM _ _ _ _).1 (hM80 _ _ _ b11 hge_b11 b25 hge_b25 b180 hge_b180 (env_sub _ hA) H hD)
  have hM85 : ∀ (a : Act) (w182 : World) (S : Stab) (b11 : Nat) (hge_b11 : w6.heap.size ≤ b11) (b27 : Nat) (hge_b27 : w6.heap.size ≤ b27), EnvOk 100 a (keepEnv [(2, .pointer (some ⟨b2, 0, none⟩)), (3, .pointer (some ⟨b4, 0, none⟩)), (12, .agg #[.int .i64 n, ve]), (14, .int .i64 n), (18, (.slice (some ⟨b11, 0, none⟩) n.toNat n.toNat)), (20, .int .i64 n), (22, (.map (some b27)))]) → Fr o w182 S (mapR Try.prog 3 (α := List (Int)) b27 [] :: .box b11 3 (arrV n fun j => .int .i64 (Deep.St.zero.met j)) :: .box b4 29 [vv, vl] :: .box b2 24 [.int .i64 n, ve] :: tl) → But w6 none w182 → M 5 #[true, true, true, false, true, true, true, true, true, false, true, false, false, false] a w182 := by
    intro a w182 S b11 hge_b11 b27 hge_b27 hA H hD
    refine (hM _ _ _ _).2 ?_
    refine m_many [3, 9] fun i_ hi_ => ?_
    simp only [List.mem_cons, List.not_mem_nil, or_false] at hi_
    rcases hi_ with rfl | rfl
    · skip
      refine q_makeA 3 15 67 (.tmp 14) 27 n (.slice none 0 0) [(2, .pointer (some ⟨b2, 0, none⟩)), (3, .pointer (some ⟨b4, 0, none⟩)), (12, .agg #[.int .i64 n, ve]), (18, (.slice (some ⟨b11, 0, none⟩) n.toNat n.toNat)), (20, .int .i64 n), (22, (.map (some b27)))] hA H Try.underlying67 (make_info (by kernel_rfl)) (by omega) (by omega) fun b183 a w184 H hA hG hge_b183 => ?_
      replace hge_b183 := Nat.le_trans hD.1 hge_b183
      replace H : Fr _ _ _ (mapR Try.prog 3 (α := List (Int)) b27 [] :: .box b11 3 (arrV n fun j => .int .i64 (Deep.St.zero.met j)) :: .box b183 27 (arrV n (fun _ => .slice none 0 0)) :: .box b4 29 [vv, vl] :: .box b2 24 [.int .i64 n, ve] :: tl) := H.sink 1 2
      replace hD := hD.below hG
      refine ⟨fun _ => hD, ?_⟩
      exact (hM _ _ _ _).1 (hM78 _ _ _ b183 hge_b183 b11 hge_b11 b27 hge_b27 (env_sub _ hA) H hD)
    · skip
      refine q_makeA 9 21 27 (.tmp 20) 3 n (.int .i64 0) [(2, .pointer (some ⟨b2, 0, none⟩)), (3, .pointer (some ⟨b4, 0, none⟩)), (12, .agg #[.int .i64 n, ve]), (14, .int .i64 n), (18, (.slice (some ⟨b11, 0, none⟩) n.toNat n.toNat)), (22, (.map (some b27)))] hA H Try.underlying27 (make_info (by kernel_rfl)) (by omega) (by omega) fun b185 a w186 H hA hG hge_b185 => ?_
      replace hge_b185 := Nat.le_trans hD.1 hge_b185
      replace H : Fr _ _ _ (mapR Try.prog 3 (α := List (Int)) b27 [] :: .box b185 3 (arrV n fun j => .int .i64 (Deep.St.zero.low j)) :: .box b11 3 (arrV n fun j => .int .i64 (Deep.St.zero.met j)) :: .box b4 29 [vv, vl] :: .box b2 24 [.int .i64 n, ve] :: tl) := H.sink 1 1
      replace hD := hD.below hG
      refine ⟨fun _ => hD, ?_⟩
      exact (hM _ _ _ _).1 (hM80 _ _ _ b11 hge_b11 b185 hge_b185 b27 hge_b27 (env_sub _ hA) H hD)
  have hM86 : ∀ (a : Act) (w187 : World) (S : Stab) (b13 : Nat) (hge_b13 : w6.heap.size ≤ b13) (b33 : Nat) (hge_b33 : w6.heap.size ≤ b33), EnvOk 100 a (keepEnv [(2, .pointer (some ⟨b2, 0, none⟩)), (3, .pointer (some ⟨b4, 0, none⟩)), (12, .agg #[.int .i64 n, ve]), (14, .int .i64 n), (17, .int .i64 n), (21, (.slice (some ⟨b13, 0, none⟩) n.toNat n.toNat)), (22, (.map (some b33)))]) → Fr o w187 S (mapR Try.prog 3 (α := List (Int)) b33 [] :: .box b13 3 (arrV n fun j => .int .i64 (Deep.St.zero.low j)) :: .box b4 29 [vv, vl] :: .box b2 24 [.int .i64 n, ve] :: tl) → But w6 none w187 → M 5 #[true, true, true, false, true, true, false, true, true, true, true, false, false, false] a w187 := by
    intro a w187 S b13 hge_b13 b33 hge_b33 hA H hD
    refine (hM _ _ _ _).2 ?_
    refine m_many [3, 6] fun i_ hi_ => ?_
    simp only [List.mem_cons, List.not_mem_nil, or_false] at hi_
    rcases hi_ with rfl | rfl
    · skip
      refine q_makeA 3 15 67 (.tmp 14) 27 n (.slice none 0 0) [(2, .pointer (some ⟨b2, 0, none⟩)), (3, .pointer (some ⟨b4, 0, none⟩)), (12, .agg #[.int .i64 n, ve]), (17, .int .i64 n), (21, (.slice (some ⟨b13, 0, none⟩) n.toNat n.toNat)), (22, (.map (some b33)))] hA H Try.underlying67 (make_info (by kernel_rfl)) (by omega) (by omega) fun b188 a w189 H hA hG hge_b188 => ?_
      replace hge_b188 := Nat.le_trans hD.1 hge_b188
      replace H : Fr _ _ _ (mapR Try.prog 3 (α := List (Int)) b33 [] :: .box b13 3 (arrV n fun j => .int .i64 (Deep.St.zero.low j)) :: .box b188 27 (arrV n (fun _ => .slice none 0 0)) :: .box b4 29 [vv, vl] :: .box b2 24 [.int .i64 n, ve] :: tl) := H.sink 1 2
      replace hD := hD.below hG
      refine ⟨fun _ => hD, ?_⟩
      exact (hM _ _ _ _).1 (hM79 _ _ _ b188 hge_b188 b13 hge_b13 b33 hge_b33 (env_sub _ hA) H hD)
    · skip
      refine q_makeA 6 18 27 (.tmp 17) 3 n (.int .i64 0) [(2, .pointer (some ⟨b2, 0, none⟩)), (3, .pointer (some ⟨b4, 0, none⟩)), (12, .agg #[.int .i64 n, ve]), (14, .int .i64 n), (21, (.slice (some ⟨b13, 0, none⟩) n.toNat n.toNat)), (22, (.map (some b33)))] hA H Try.underlying27 (make_info (by kernel_rfl)) (by omega) (by omega) fun b190 a w191 H hA hG hge_b190 => ?_
      replace hge_b190 := Nat.le_trans hD.1 hge_b190
      replace H : Fr _ _ _ (mapR Try.prog 3 (α := List (Int)) b33 [] :: .box b13 3 (arrV n fun j => .int .i64 (Deep.St.zero.low j)) :: .box b190 3 (arrV n fun j => .int .i64 (Deep.St.zero.met j)) :: .box b4 29 [vv, vl] :: .box b2 24 [.int .i64 n, ve] :: tl) := H.sink 1 2
      replace hD := hD.below hG
      refine ⟨fun _ => hD, ?_⟩
      exact (hM _ _ _ _).1 (hM80 _ _ _ b190 hge_b190 b13 hge_b13 b33 hge_b33 (env_sub _ hA) H hD)
  have hM87 : ∀ (a : Act) (w192 : World) (S : Stab) (b9 : Nat) (hge_b9 : w6.heap.size ≤ b9), EnvOk 100 a (keepEnv [(2, .pointer (some ⟨b2, 0, none⟩)), (3, .pointer (some ⟨b4, 0, none⟩)), (12, .agg #[.int .i64 n, ve]), (15, (.slice (some ⟨b9, 0, none⟩) n.toNat n.toNat)), (17, .int .i64 n), (20, .int .i64 n)]) → Fr o w192 S (.box b9 27 (arrV n (fun _ => .slice none 0 0)) :: .box b4 29 [vv, vl] :: .box b2 24 [.int .i64 n, ve] :: tl) → But w6 none w192 → M 6 #[true, true, true, true, true, true, false, true, true, false, false, false, false, false] a w192 := by
    intro a w192 S b9 hge_b9 hA H hD
    refine (hM _ _ _ _).2 ?_
    refine m_many [6, 9, 10] fun i_ hi_ => ?_
    simp only [List.mem_cons, List.not_mem_nil, or_false] at hi_
    rcases hi_ with rfl | rfl | rfl
    · skip
      refine q_makeA 6 18 27 (.tmp 17) 3 n (.int .i64 0) [(2, .pointer (some ⟨b2, 0, none⟩)), (3, .pointer (some ⟨b4, 0, none⟩)), (12, .agg #[.int .i64 n, ve]), (15, (.slice (some ⟨b9, 0, none⟩) n.toNat n.toNat)), (20, .int .i64 n)] hA H Try.underlying27 (make_info (by kernel_rfl)) (by omega) (by omega) fun b193 a w194 H hA hG hge_b193 => ?_
      replace hge_b193 := Nat.le_trans hD.1 hge_b193
      replace hD := hD.below hG
      refine ⟨fun _ => hD, ?_⟩
      exact (hM _ _ _ _).1 (hM81 _ _ _ b9 hge_b9 b193 hge_b193 (env_sub _ hA) H hD)
    · skip
      refine q_makeA 9 21 27 (.tmp 20) 3 n (.int .i64 0) [(2, .pointer (some ⟨b2, 0, none⟩)), (3, .pointer (some ⟨b4, 0, none⟩)), (12, .agg #[.int .i64 n, ve]), (15, (.slice (some ⟨b9, 0, none⟩) n.toNat n.toNat)), (17, .int .i64 n)] hA H Try.underlying27 (make_info (by kernel_rfl)) (by omega) (by omega) fun b195 a w196 H hA hG hge_b195 => ?_
      replace hge_b195 := Nat.le_trans hD.1 hge_b195
      replace hD := hD.below hG
      refine ⟨fun _ => hD, ?_⟩
      exact (hM _ _ _ _).1 (hM82 _ _ _ b9 hge_b9 b195 hge_b195 (env_sub _ hA) H hD)
    · skip
      refine q_makeMap (List (Int)) 3 10 22 104 [(2, .pointer (some ⟨b2, 0, none⟩)), (3, .pointer (some ⟨b4, 0, none⟩)), (12, .agg #[.int .i64 n, ve]), (15, (.slice (some ⟨b9, 0, none⟩) n.toNat n.toNat)), (17, .int .i64 n), (20, .int .i64 n)] hA H fun b197 a w198 H hA hG hge_b197 => ?_
      replace hge_b197 := Nat.le_trans hD.1 hge_b197
      replace hD := hD.below hG
      refine ⟨fun _ => hD, ?_⟩
      exact (hM _ _ _ _).1 (hM83 _ _ _ b9 hge_b9 b197 hge_b197 (env_sub _ hA) H hD)
  have hM88 : ∀ (a : Act) (w199 : World) (S : Stab) (b11 : Nat) (hge_b11 : w6.heap.size ≤ b11), EnvOk 100 a (keepEnv [(2, .pointer (some ⟨b2, 0, none⟩)), (3, .pointer (some ⟨b4, 0, none⟩)), (12, .agg #[.int .i64 n, ve]), (14, .int .i64 n), (18, (.slice (some ⟨b11, 0, none⟩) n.toNat n.toNat)), (20, .int .i64 n)]) → Fr o w199 S (.box b11 3 (arrV n fun j => .int .i64 (Deep.St.zero.met j)) :: .box b4 29 [vv, vl] :: .box b2 24 [.int .i64 n, ve] :: tl) → But w6 none w199 → M 6 #[true, true, true, false, true, true, true, true, true, false, false, false, false, false] a w199 := by
    intro a w199 S b11 hge_b11 hA H hD
    refine (hM _ _ _ _).2 ?_
    refine m_many [3, 9, 10] fun i_ hi_ => ?_
    simp only [List.mem_cons, List.not_mem_nil, or_false] at hi_
    rcases hi_ with rfl | rfl | rfl
    · skip
      refine q_makeA 3 15 67 (.tmp 14) 27 n (.slice none 0 0) [(2, .pointer (some ⟨b2, 0, none⟩)), (3, .pointer (some ⟨b4, 0, none⟩)), (12, .agg #[.int .i64 n, ve]), (18, (.slice (some ⟨b11, 0, none⟩) n.toNat n.toNat)), (20, .int .i64 n)] hA H Try.underlying67 (make_info (by kernel_rfl)) (by omega) (by omega) fun b200 a w201 H hA hG hge_b200 => ?_
      replace hge_b200 := Nat.le_trans hD.1 hge_b200
      replace H : Fr _ _ _ (.box b11 3 (arrV n fun j => .int .i64 (Deep.St.zero.met j)) :: .box b200 27 (arrV n (fun _ => .slice none 0 0)) :: .box b4 29 [vv, vl] :: .box b2 24 [.int .i64 n, ve] :: tl) := H.sink 1 1
      replace hD := hD.below hG
      refine ⟨fun _ => hD, ?_⟩
      exact (hM _ _ _ _).1 (hM81 _ _ _ b200 hge_b200 b11 hge_b11 (env_sub _ hA) H hD)
    · skip
      refine q_makeA 9 21 27 (.tmp 20) 3 n (.int .i64 0) [(2, .pointer (some ⟨b2, 0, none⟩)), (3, .pointer (some ⟨b4, 0, none⟩)), (12, .agg #[.int .i64 n, ve]), (14, .int .i64 n), (18, (.slice (some ⟨b11, 0, none⟩) n.toNat n.toNat))] hA H Try.underlying27 (make_info (by kernel_rfl)) (by omega) (by omega) fun b202 a w203 H hA hG hge_b202 => ?_
      replace hge_b202 := Nat.le_trans hD.1 hge_b202
      replace hD := hD.below hG
      refine ⟨fun _ => hD, ?_⟩
      exact (hM _ _ _ _).1 (hM84 _ _ _ b11 hge_b11 b202 hge_b202 (env_sub _ hA) H hD)
    · skip
      refine q_makeMap (List (Int)) 3 10 22 104 [(2, .pointer (some ⟨b2, 0, none⟩)), (3, .pointer (some ⟨b4, 0, none⟩)), (12, .agg #[.int .i64 n, ve]), (14, .int .i64 n), (18, (.slice (some ⟨b11, 0, none⟩) n.toNat n.toNat)), (20, .int .i64 n)] hA H fun b204 a w205 H hA hG hge_b204 => ?_
      replace hge_b204 := Nat.le_trans hD.1 hge_b204
      replace hD := hD.below hG
      refine ⟨fun _ => hD, ?_⟩
      exact (hM _ _ _ _).1 (hM85 _ _ _ b11 hge_b11 b204 hge_b204 (env_sub _ hA) H hD)
  have hM89 : ∀ (a : Act) (w206 : World) (S : Stab) (b13 : Nat) (hge_b13 : w6.heap.size ≤ b13), EnvOk 100 a (keepEnv [(2, .pointer (some ⟨b2, 0, none⟩)), (3, .pointer (some ⟨b4, 0, none⟩)), (12, .agg #[.int .i64 n, ve]), (14, .int .i64 n), (17, .int .i64 n), (21, (.slice (some ⟨b13, 0, none⟩) n.toNat n.toNat))]) → Fr o w206 S (.box b13 3 (arrV n fun j => .int .i64 (Deep.St.zero.low j)) :: .box b4 29 [vv, vl] :: .box b2 24 [.int .i64 n, ve] :: tl) → But w6 none w206 → M 6 #[true, true, true, false, true, true, false, true, true, true, false, false, false, false] a w206 := by
    intro a w206 S b13 hge_b13 hA H hD
    refine (hM _ _ _ _).2 ?_
    refine m_many [3, 6, 10] fun i_ hi_ => ?_
    simp only [List.mem_cons, List.not_mem_nil, or_false] at hi_
    rcases hi_ with rfl | rfl | rfl
    · skip
      refine q_makeA 3 15 67 (.tmp 14) 27 n (.slice none 0 0) [(2, .pointer (some ⟨b2, 0, none⟩)), (3, .pointer (some ⟨b4, 0, none⟩)), (12, .agg #[.int .i64 n, ve]), (17, .int .i64 n), (21, (.slice (some ⟨b13, 0, none⟩) n.toNat n.toNat))] hA H Try.underlying67 (make_info (by kernel_rfl)) (by omega) (by omega) fun b207 a w208 H hA hG hge_b207 => ?_
      replace hge_b207 := Nat.le_trans hD.1 hge_b207
      replace H : Fr _ _ _ (.box b13 3 (arrV n fun j => .int .i64 (Deep.St.zero.low j)) :: .box b207 27 (arrV n (fun _ => .slice none 0 0)) :: .box b4 29 [vv, vl] :: .box b2 24 [.int .i64 n, ve] :: tl) := H.sink 1 1
      replace hD := hD.below hG
      refine ⟨fun _ => hD, ?_⟩
      exact (hM _ _ _ _).1 (hM82 _ _ _ b207 hge_b207 b13 hge_b13 (env_sub _ hA) H hD)
    · skip
      refine q_makeA 6 18 27 (.tmp 17) 3 n (.int .i64 0) [(2, .pointer (some ⟨b2, 0, none⟩)), (3, .pointer (some ⟨b4, 0, none⟩)), (12, .agg #[.int .i64 n, ve]), (14, .int .i64 n), (21, (.slice (some ⟨b13, 0, none⟩) n.toNat n.toNat))] hA H Try.underlying27 (make_info (by kernel_rfl)) (by omega) (by omega) fun b209 a w210 H hA hG hge_b209 => ?_
      replace hge_b209 := Nat.le_trans hD.1 hge_b209
      replace H : Fr _ _ _ (.box b13 3 (arrV n fun j => .int .i64 (Deep.St.zero.low j)) :: .box b209 3 (arrV n fun j => .int .i64 (Deep.St.zero.met j)) :: .box b4 29 [vv, vl] :: .box b2 24 [.int .i64 n, ve] :: tl) := H.sink 1 1
      replace hD := hD.below hG
      refine ⟨fun _ => hD, ?_⟩
      exact (hM _ _ _ _).1 (hM84 _ _ _ b209 hge_b209 b13 hge_b13 (env_sub _ hA) H hD)
    · skip
      refine q_makeMap (List (Int)) 3 10 22 104 [(2, .pointer (some ⟨b2, 0, none⟩)), (3, .pointer (some ⟨b4, 0, none⟩)), (12, .agg #[.int .i64 n, ve]), (14, .int .i64 n), (17, .int .i64 n), (21, (.slice (some ⟨b13, 0, none⟩) n.toNat n.toNat))] hA H fun b211 a w212 H hA hG hge_b211 => ?_
      replace hge_b211 := Nat.le_trans hD.1 hge_b211
      replace hD := hD.below hG
      refine ⟨fun _ => hD, ?_⟩
      exact (hM _ _ _ _).1 (hM86 _ _ _ b13 hge_b13 b211 hge_b211 (env_sub _ hA) H hD)
  have hM90 : ∀ (a : Act) (w213 : World) (S : Stab) (b15 : Nat) (hge_b15 : w6.heap.size ≤ b15), EnvOk 100 a (keepEnv [(2, .pointer (some ⟨b2, 0, none⟩)), (3, .pointer (some ⟨b4, 0, none⟩)), (12, .agg #[.int .i64 n, ve]), (14, .int .i64 n), (17, .int .i64 n), (20, .int .i64 n), (22, (.map (some b15)))]) → Fr o w213 S (mapR Try.prog 3 (α := List (Int)) b15 [] :: .box b4 29 [vv, vl] :: .box b2 24 [.int .i64 n, ve] :: tl) → But w6 none w213 → M 6 #[true, true, true, false, true, true, false, true, true, false, true, false, false, false] a w213 := by
    intro a w213 S b15 hge_b15 hA H hD
    refine (hM _ _ _ _).2 ?_
    refine m_many [3, 6, 9] fun i_ hi_ => ?_
    simp only [List.mem_cons, List.not_mem_nil, or_false] at hi_
    rcases hi_ with rfl | rfl | rfl
    · skip
      refine q_makeA 3 15 67 (.tmp 14) 27 n (.slice none 0 0) [(2, .pointer (some ⟨b2, 0, none⟩)), (3, .pointer (some ⟨b4, 0, none⟩)), (12, .agg #[.int .i64 n, ve]), (17, .int .i64 n), (20, .int .i64 n), (22, (.map (some b15)))] hA H Try.underlying67 (make_info (by kernel_rfl)) (by omega) (by omega) fun b214 a w215 H hA hG hge_b214 => ?_
      replace hge_b214 := Nat.le_trans hD.1 hge_b214
      replace H : Fr _ _ _ (mapR Try.prog 3 (α := List (Int)) b15 [] :: .box b214 27 (arrV n (fun _ => .slice none 0 0)) :: .box b4 29 [vv, vl] :: .box b2 24 [.int .i64 n, ve] :: tl) := H.sink 1 1
      replace hD := hD.below hG
      refine ⟨fun _ => hD, ?_⟩
      exact (hM _ _ _ _).1 (hM83 _ _ _ b214 hge_b214 b15 hge_b15 (env_sub _ hA) H hD)
    · skip
      refine q_makeA 6 18 27 (.tmp 17) 3 n (.int .i64 0) [(2, .pointer (some ⟨b2, 0, none⟩)), (3, .pointer (some ⟨b4, 0, none⟩)), (12, .agg #[.int .i64 n, ve]), (14, .int .i64 n), (20, .int .i64 n), (22, (.map (some b15)))] hA H Try.underlying27 (make_info (by kernel_rfl)) (by omega) (by omega) fun b216 a w217 H hA hG hge_b216 => ?_
      replace hge_b216 := Nat.le_trans hD.1 hge_b216
      replace H : Fr _ _ _ (mapR Try.prog 3 (α := List (Int)) b15 [] :: .box b216 3 (arrV n fun j => .int .i64 (Deep.St.zero.met j)) :: .box b4 29 [vv, vl] :: .box b2 24 [.int .i64 n, ve] :: tl) := H.sink 1 1
      replace hD := hD.below hG
      refine ⟨fun _ => hD, ?_⟩
      exact (hM _ _ _ _).1 (hM85 _ _ _ b216 hge_b216 b15 hge_b15 (env_sub _ hA) H hD)
    · skip
      refine q_makeA 9 21 27 (.tmp 20) 3 n (.int .i64 0) [(2, .pointer (some ⟨b2, 0, none⟩)), (3, .pointer (some ⟨b4, 0, none⟩)), (12, .agg #[.int .i64 n, ve]), (14, .int .i64 n), (17, .int .i64 n), (22, (.map (some b15)))] hA H Try.underlying27 (make_info (by kernel_rfl)) (by omega) (by omega) fun b218 a w219 H hA hG hge_b218 => ?_
      replace hge_b218 := Nat.le_trans hD.1 hge_b218
      replace H : Fr _ _ _ (mapR Try.prog 3 (α := List (Int)) b15 [] :: .box b218 3 (arrV n fun j => .int .i64 (Deep.St.zero.low j)) :: .box b4 29 [vv, vl] :: .box b2 24 [.int .i64 n, ve] :: tl) := H.sink 1 1
      replace hD := hD.below hG
      refine ⟨fun _ => hD, ?_⟩
      exact (hM _ _ _ _).1 (hM86 _ _ _ b218 hge_b218 b15 hge_b15 (env_sub _ hA) H hD)
  have hM91 : ∀ (a : Act) (w220 : World) (S : Stab), EnvOk 100 a (keepEnv [(2, .pointer (some ⟨b2, 0, none⟩)), (3, .pointer (some ⟨b4, 0, none⟩)), (12, .agg #[.int .i64 n, ve]), (14, .int .i64 n), (17, .int .i64 n), (20, .int .i64 n)]) → Fr o w220 S (.box b4 29 [vv, vl] :: .box b2 24 [.int .i64 n, ve] :: tl) → But w6 none w220 → M 7 #[true, true, true, false, true, true, false, true, true, false, false, false, false, false] a w220 := by
    intro a w220 S  hA H hD
    refine (hM _ _ _ _).2 ?_
    refine m_many [3, 6, 9, 10] fun i_ hi_ => ?_
    simp only [List.mem_cons, List.not_mem_nil, or_false] at hi_
    rcases hi_ with rfl | rfl | rfl | rfl
    · skip
      refine q_makeA 3 15 67 (.tmp 14) 27 n (.slice none 0 0) [(2, .pointer (some ⟨b2, 0, none⟩)), (3, .pointer (some ⟨b4, 0, none⟩)), (12, .agg #[.int .i64 n, ve]), (17, .int .i64 n), (20, .int .i64 n)] hA H Try.underlying67 (make_info (by kernel_rfl)) (by omega) (by omega) fun b221 a w222 H hA hG hge_b221 => ?_
      replace hge_b221 := Nat.le_trans hD.1 hge_b221
      replace hD := hD.below hG
      refine ⟨fun _ => hD, ?_⟩
      exact (hM _ _ _ _).1 (hM87 _ _ _ b221 hge_b221 (env_sub _ hA) H hD)
    · skip
      refine q_makeA 6 18 27 (.tmp 17) 3 n (.int .i64 0) [(2, .pointer (some ⟨b2, 0, none⟩)), (3, .pointer (some ⟨b4, 0, none⟩)), (12, .agg #[.int .i64 n, ve]), (14, .int .i64 n), (20, .int .i64 n)] hA H Try.underlying27 (make_info (by kernel_rfl)) (by omega) (by omega) fun b223 a w224 H hA hG hge_b223 => ?_
      replace hge_b223 := Nat.le_trans hD.1 hge_b223
      replace hD := hD.below hG
      refine ⟨fun _ => hD, ?_⟩
      exact (hM _ _ _ _).1 (hM88 _ _ _ b223 hge_b223 (env_sub _ hA) H hD)
    · skip
      refine q_makeA 9 21 27 (.tmp 20) 3 n (.int .i64 0) [(2, .pointer (some ⟨b2, 0, none⟩)), (3, .pointer (some ⟨b4, 0, none⟩)), (12, .agg #[.int .i64 n, ve]), (14, .int .i64 n), (17, .int .i64 n)] hA H Try.underlying27 (make_info (by kernel_rfl)) (by omega) (by omega) fun b225 a w226 H hA hG hge_b225 => ?_
      replace hge_b225 := Nat.le_trans hD.1 hge_b225
      replace hD := hD.below hG
      refine ⟨fun _ => hD, ?_⟩
      exact (hM _ _ _ _).1 (hM89 _ _ _ b225 hge_b225 (env_sub _ hA) H hD)
    · skip
      refine q_makeMap (List (Int)) 3 10 22 104 [(2, .pointer (some ⟨b2, 0, none⟩)), (3, .pointer (some ⟨b4, 0, none⟩)), (12, .agg #[.int .i64 n, ve]), (14, .int .i64 n), (17, .int .i64 n), (20, .int .i64 n)] hA H fun b227 a w228 H hA hG hge_b227 => ?_
      replace hge_b227 := Nat.le_trans hD.1 hge_b227
      replace hD := hD.below hG
      refine ⟨fun _ => hD, ?_⟩
      exact (hM _ _ _ _).1 (hM90 _ _ _ b227 hge_b227 (env_sub _ hA) H hD)
  exact hM91 _ _ _ (env_sub _ hA) H hD

end Go.Proofs.Ytahonnlgkmimlaa

set_option linter.unusedSimpArgs false
set_option linter.unusedVariables false
namespace Go.Proofs.Ytahonnlgkmimlaa
open Go.RowKit Go.Proofs.Ytahonnlgkmimlaa.Deep

section
variable {n : Int} {E : List (Int × Int)} {V L : List Int}
theorem nodup_le {l m : List Int} (h : l.Nodup) (hs : ∀ x ∈ l, x ∈ m) : l.length ≤ m.length := h.length_le_of_subset hs
theorem sum_le {f : Int → Nat} {b : Nat} (h : ∀ x, f x ≤ b) : ∀ l : List Int, (l.map f).sum ≤ l.length * b
  | [] => by simp
  | x :: l => by
    have := sum_le h l
    have := h x
    simp only [List.map_cons, List.sum_cons, List.length_cons, Nat.add_mul]
    omega
theorem dartsL_le (E : List (Int × Int)) (x : Int) : ∀ L : List Int, (dartsL E L x).length ≤ 2 * L.length
  | [] => by simp [dartsL]
  | e :: L => by
    have := dartsL_le E x L
    have h : dartsL E (e :: L) x = dartsL E [e] x ++ dartsL E L x := by rw [← dartsL_app]; rfl
    have h2 : (dartsL E [e] x).length ≤ 2 := by
      show (List.flatMap _ [_]).length ≤ 2
      rw [List.flatMap_cons, List.flatMap_nil, List.append_nil, dartsFrom_0, List.length_append]
      split <;> split <;> simp
    rw [h, List.length_append, List.length_cons]
    omega
theorem find_ex (hp : partE n E V L = 0) : ∃ s', Deep.Roots (dartsL E L) (headE E) V Deep.St.zero s' ∧ Deep.Bd s' ∧ Deep.Rest (grE E L) s' ∧ ∀ v ∈ V, s'.met v ≠ 0 := by
  obtain ⟨hr, hVr, hL, hV⟩ := part_iff.1 hp
  have hr9 := rightE_0 hr
  have hl9 := rises_len hL (by omega)
  have hv9 := rises_len hVr (by omega)
  have HD := darts_ok (E := E) hL
  have h0 : (-1 : Int) ∉ (grE E L).L := fun h => by have := ((rises_iff.1 hL).2 _ h).1; omega
  have hU : ∀ v d, d ∈ dartsL E L v → headE E d ∈ V := fun v d hd => by
    obtain ⟨h1, h2⟩ := HD.mem v d hd
    exact hV _ h1 _ (h2.right)
  obtain ⟨s', hs⟩ := roots_ex HD h0 V hU V St.zero (fun _ h => h) rest_zero
  obtain ⟨R, hm, _⟩ := roots_rest HD h0 hs rest_zero
  obtain ⟨i1, i2⟩ := roots_ins hU hs (fun _ h => h) (Int.le_refl _)
  have ha : Deep.ahead (dartsL E L) V St.zero ≤ V.length * (2 * L.length) := sum_le (fun x => by
    split
    · exact dartsL_le E x L
    · exact Nat.zero_le _) V
  have hlf : Deep.left V St.zero ≤ V.length := List.length_filter_le _ _
  have hb1 : V.length * (2 * L.length) ≤ 1024 * 2048 := Nat.mul_le_mul (by omega) (by omega)
  have hin : ∀ f ∈ s'.blk.flatten, f ∈ L := fun f hf => by
    obtain ⟨b, hb, hfb⟩ := List.mem_flatten.1 hf
    exact ((good_of R.glob.good b hb).1 f hfb).1
  have hnd : s'.blk.flatten.Nodup := by have := R.glob.nd; rw [R.stk, List.append_nil] at this; exact this
  have z1 : (St.zero).ins.length = 0 := rfl
  have z2 : (St.zero).cnt = 0 := rfl
  refine ⟨s', hs, ⟨by omega, ?_, ?_, by omega⟩, R, hm⟩
  · rw [R.stk, List.append_nil]; have := nodup_le hnd hin; omega
  · rw [R.stk, List.append_nil]; intro f hf; have := (rises_iff.1 hL).2 f (hin f hf); omega
end
end Go.Proofs.Ytahonnlgkmimlaa

set_option linter.unusedSimpArgs false
set_option linter.unusedVariables false
namespace Go.Proofs.Ytahonnlgkmimlaa
open Go.RowKit Go.Proofs.Ytahonnlgkmimlaa.Deep

section
variable {n : Int} {E : List (Int × Int)} {V L : List Int}
theorem mem_touchL {M : List Int} {x : Int} : x ∈ touchL E M n ↔ (0 ≤ x ∧ x < n) ∧ ∃ e ∈ M, touchP E e x := by
  unfold touchL; rw [List.mem_filter, mem_upto, touchB_iff]
theorem class_mem {e f : Int} : f ∈ classL E V L e ↔ f ∈ L ∧ togB E V L e f = true := by unfold classL; rw [List.mem_filter]
theorem class_self {e : Int} (he : e ∈ L) : e ∈ classL E V L e := class_mem.2 ⟨he, togB_self⟩

/-- What is known of a class. -/
theorem class_all (hp : partE n E V L = 0) {e : Int} (he : e ∈ L) : (∀ f ∈ classL E V L e, classL E V L f = classL E V L e) ∧
    ((classL E V L e = [e] ∧ (grE E L).lp e) ∨ ((∀ f ∈ classL E V L e, ¬ (grE E L).lp f) ∧ ∀ f ∈ classL E V L e, ∀ g ∈ classL E V L e, ∀ z, Tog (grE E L) z f g)) := by
  obtain ⟨_, _, hL, hV⟩ := part_iff.1 hp
  obtain ⟨s, _, _, R, hs⟩ := find_ex hp
  rcases R.cov (eA E e) (hs _ (hV e he _ (.inl rfl))) e he (.inl rfl) with h | h
  · rw [class_lp hp he h.1]
    exact ⟨fun f hf => by rw [List.mem_singleton.1 hf]; exact class_lp hp he h.1, .inl ⟨rfl, h.1⟩⟩
  · obtain ⟨b, hb, heb⟩ := List.mem_flatten.1 h
    have hc := class_blk hp R hs hb heb
    obtain ⟨g1, g2⟩ := good_of R.glob.good b hb
    rw [hc]
    refine ⟨fun f hf => class_blk hp R hs hb (mem_sortL.1 hf), .inr ⟨fun f hf => (g1 f (mem_sortL.1 hf)).2, fun f hf g hg z => g2 f (mem_sortL.1 hf) g (mem_sortL.1 hg) z⟩⟩
theorem class_eq (hp : partE n E V L = 0) {e f : Int} (he : e ∈ L) (hf : f ∈ L) {g : Int} (h1 : g ∈ classL E V L e) (h2 : g ∈ classL E V L f) : classL E V L e = classL E V L f :=
  ((class_all hp he).1 g h1).symm.trans ((class_all hp hf).1 g h2)
/-- Edges that no vertex takes apart are in one class. -/
theorem class_tog (hp : partE n E V L = 0) {e f : Int} (he : e ∈ L) (hf : f ∈ L) (le : ¬ (grE E L).lp e) (lf : ¬ (grE E L).lp f) (h : ∀ z, Tog (grE E L) z e f) : f ∈ classL E V L e := by
  refine class_mem.2 ⟨hf, togB_iff.2 fun v _ => ?_⟩
  by_cases hne : e = f
  · unfold apartB; rw [if_pos hne]
  · exact (apart_iff he hf hne le lf).2 (h v)

theorem rch_at {z x : Int} {f g : Int} {a b : Int} (hg : g ∈ L) (ha : (grE E L).inc f a) (hb : (grE E L).inc g b) (hbz : b ≠ z) (h : (grE E L).Rch (· ≠ z) a b) (hx : (grE E L).inc g x) (hxz : x ≠ z) : (grE E L).Rch (· ≠ z) a x :=
  h.trans (ends_rch hg hb hx hbz hxz)

/-- Two blocks share one vertex at most. -/
theorem share_one (hp : partE n E V L = 0) {e f : Int} (he : e ∈ L) (hf : f ∈ L) (hne : classL E V L e ≠ classL E V L f) {x y : Int} (hx : x ∈ touchL E (classL E V L e) n) (hx' : x ∈ touchL E (classL E V L f) n)
    (hy : y ∈ touchL E (classL E V L e) n) (hy' : y ∈ touchL E (classL E V L f) n) : x = y := by
  refine Classical.byContradiction fun hxy => hne ?_
  obtain ⟨_, ex, hex, ix⟩ := mem_touchL.1 hx
  obtain ⟨_, ey, hey, iy⟩ := mem_touchL.1 hy
  obtain ⟨_, fx, hfx, jx⟩ := mem_touchL.1 hx'
  obtain ⟨_, fy, hfy, jy⟩ := mem_touchL.1 hy'
  have one : ∀ {u v g h k : Int}, g = k → h = k → (grE E L).lp k → touchP E g u → touchP E h v → u = v := fun e1 e2 hl h1 h2 => by
    subst e1; subst e2; unfold touchP at h1 h2; unfold Gr.lp at hl
    have hl : (E.getD _ (0, 0)).1 = (E.getD _ (0, 0)).2 := hl
    omega
  rcases (class_all hp he).2 with ⟨h1, h2⟩ | ⟨h1, h2⟩
  · rw [h1] at hex hey; exact absurd (one (List.mem_singleton.1 hex) (List.mem_singleton.1 hey) h2 ix iy) hxy
  rcases (class_all hp hf).2 with ⟨k1, k2⟩ | ⟨k1, k2⟩
  · rw [k1] at hfx hfy; exact absurd (one (List.mem_singleton.1 hfx) (List.mem_singleton.1 hfy) k2 jx jy) hxy
  have es := class_self (E := E) (V := V) he
  have fs := class_self (E := E) (V := V) hf
  refine class_eq hp he hf (g := f) (class_tog hp he hf (h1 e es) (k1 f fs) fun z => ?_) fs
  have key : ∃ u ge gf, u ≠ z ∧ ge ∈ classL E V L e ∧ gf ∈ classL E V L f ∧ touchP E ge u ∧ touchP E gf u := by
    by_cases hz : x = z
    · exact ⟨y, ey, fy, fun q => hxy (hz.trans q.symm), hey, hfy, iy, jy⟩
    · exact ⟨x, ex, fx, hz, hex, hfx, ix, jx⟩
  obtain ⟨u, ge, gf, hu, hge, hgf, iu, ju⟩ := key
  obtain ⟨a, b, a1, a2, a3, a4, a5⟩ := h2 e es ge hge z
  obtain ⟨c, d, c1, c2, c3, c4, c5⟩ := k2 f fs gf hgf z
  have r1 := rch_at (class_mem.1 hge).1 a1 a3 a4 a5 iu hu
  have r2 := rch_at (class_mem.1 hgf).1 c1 c3 c4 c5 ju hu
  exact ⟨a, c, a1, a2, c1, c2, r1.trans r2.symm⟩

/-- The blocks' edges are all edges. -/
theorem reps_perm (hp : partE n E V L = 0) : ((L.filter fun e => decide ((classL E V L e).getD 0 0 = e)).flatMap fun e => classL E V L e).Perm L := by
  obtain ⟨_, _, hL, _⟩ := part_iff.1 hp
  have hLn := asc_nodup (rises_iff.1 hL).1
  refine (List.perm_ext_iff_of_nodup ?_ hLn).2 fun x => ?_
  · refine List.pairwise_flatMap.2 ⟨fun e _ => hLn.sublist List.filter_sublist, ?_⟩
    refine List.Pairwise.imp_of_mem (fun {a b} ha hb hab => ?_) (hLn.sublist List.filter_sublist)
    obtain ⟨ha1, ha2⟩ := List.mem_filter.1 ha
    obtain ⟨hb1, hb2⟩ := List.mem_filter.1 hb
    refine fun g hg g' hg' hgg => hab ?_
    subst hgg
    have h := class_eq hp ha1 hb1 hg hg'
    have a2 := of_decide_eq_true ha2
    have b2 := of_decide_eq_true hb2
    rw [h] at a2
    exact a2.symm.trans b2
  · rw [List.mem_flatMap]
    constructor
    · rintro ⟨e, _, h⟩; exact (class_mem.1 h).1
    · intro hx
      have hs := class_self (E := E) (V := V) hx
      have hk : (classL E V L x).getD 0 0 ∈ classL E V L x := by
        cases h : classL E V L x with
        | nil => rw [h] at hs; simp at hs
        | cons a l => simp
      have hc := (class_all hp hx).1 _ hk
      refine ⟨_, List.mem_filter.2 ⟨(class_mem.1 hk).1, decide_eq_true ?_⟩, ?_⟩
      · rw [hc]
      · rw [hc]; exact hs
end

-- ---- lists of blocks
def hasIn (bs : List (List Int × List Int)) (v : Int) : List (List Int × List Int) := bs.filter fun b => decide (v ∈ b.1)
def cutsL (V : List Int) (bs : List (List Int × List Int)) : List Int := V.filter fun v => decide (1 < (hasIn bs v).length)

section
variable {n : Int} {E : List (Int × Int)} {V L : List Int}
theorem block_at (hp : partE n E V L = 0) {b : List Int × List Int} (hb : b ∈ blocksL n E V L) : ∃ e ∈ L, (classL E V L e).getD 0 0 = e ∧ b = (touchL E (classL E V L e) n, classL E V L e) := by
  obtain ⟨e, he, rfl⟩ := List.mem_map.1 hb
  obtain ⟨h1, h2⟩ := List.mem_filter.1 he
  exact ⟨e, h1, of_decide_eq_true h2, rfl⟩
theorem block_rises (hp : partE n E V L = 0) {b : List Int × List Int} (hb : b ∈ blocksL n E V L) : risesP b.1 n ∧ risesP b.2 (E.length : Int) ∧ (∀ x ∈ b.1, x ∈ V) ∧ (∀ e ∈ b.2, e ∈ L) := by
  obtain ⟨_, _, hL, hV⟩ := part_iff.1 hp
  obtain ⟨e, he, _, rfl⟩ := block_at hp hb
  refine ⟨touchL_rises, rises_sub ((rises_iff.1 hL).1.sublist List.filter_sublist) hL fun x hx => (class_mem.1 hx).1, fun x hx => ?_, fun x hx => (class_mem.1 hx).1⟩
  obtain ⟨_, g, hg, ht⟩ := mem_touchL.1 hx
  exact hV g (class_mem.1 hg).1 x ht
theorem blocks_sum (hp : partE n E V L = 0) : ((blocksL n E V L).map fun b => b.2.length).sum = L.length := by
  have h := (reps_perm hp).length_eq
  rw [List.length_flatMap] at h
  unfold blocksL
  rw [List.map_map]
  exact h
theorem blocks_len (n : Int) (E : List (Int × Int)) (V L : List Int) : (blocksL n E V L).length ≤ L.length := by
  unfold blocksL; rw [List.length_map]; exact List.length_filter_le _ _
/-- Two blocks at two places are of two classes. -/
theorem blocks_ne (hp : partE n E V L = 0) {i k : Nat} (hi : i < (blocksL n E V L).length) (hk : k < i) :
    ∃ e f, e ∈ L ∧ f ∈ L ∧ classL E V L e ≠ classL E V L f ∧ (blocksL n E V L).getD i ([], []) = (touchL E (classL E V L e) n, classL E V L e) ∧ (blocksL n E V L).getD k ([], []) = (touchL E (classL E V L f) n, classL E V L f) := by
  obtain ⟨_, _, hL, _⟩ := part_iff.1 hp
  have hLn := asc_nodup (rises_iff.1 hL).1
  have hnd : (L.filter fun e => decide ((classL E V L e).getD 0 0 = e)).Nodup := hLn.sublist List.filter_sublist
  have hl : (blocksL n E V L).length = (L.filter fun e => decide ((classL E V L e).getD 0 0 = e)).length := by unfold blocksL; rw [List.length_map]
  have hi' : i < (L.filter fun e => decide ((classL E V L e).getD 0 0 = e)).length := by omega
  have hk' : k < (L.filter fun e => decide ((classL E V L e).getD 0 0 = e)).length := by omega
  have get : ∀ j, (hj : j < (L.filter fun e => decide ((classL E V L e).getD 0 0 = e)).length) → (blocksL n E V L).getD j ([], []) = (touchL E (classL E V L ((L.filter fun e => decide ((classL E V L e).getD 0 0 = e))[j])) n, classL E V L ((L.filter fun e => decide ((classL E V L e).getD 0 0 = e))[j])) := by
    intro j hj
    unfold blocksL
    rw [List.getD_eq_getElem?_getD, List.getElem?_map, List.getElem?_eq_getElem hj]
    rfl
  obtain ⟨a1, a2⟩ := List.mem_filter.1 (List.getElem_mem hi')
  obtain ⟨b1, b2⟩ := List.mem_filter.1 (List.getElem_mem hk')
  refine ⟨_, _, a1, b1, fun h => ?_, get i hi', get k hk'⟩
  have a3 := of_decide_eq_true a2
  have b3 := of_decide_eq_true b2
  rw [h] at a3
  have := (List.getElem_inj hnd).1 (a3.symm.trans b3)
  omega
theorem and_mem {a b : List Int} {x : Int} : x ∈ andL a b ↔ x ∈ a ∧ x ∈ b := by unfold andL; rw [List.mem_filter, decide_eq_true_eq]
/-- BlockOnce, of two blocks. -/
theorem once_two (hp : partE n E V L = 0) {i k : Nat} (hi : i < (blocksL n E V L).length) (hk : k < i) :
    andL ((blocksL n E V L).getD i ([], [])).2 ((blocksL n E V L).getD k ([], [])).2 = [] ∧
    (andL ((blocksL n E V L).getD i ([], [])).1 ((blocksL n E V L).getD k ([], [])).1).length ≤ 1 ∧
    ((andL ((blocksL n E V L).getD i ([], [])).1 ((blocksL n E V L).getD k ([], [])).1).length = 1 → (andL ((blocksL n E V L).getD i ([], [])).1 ((blocksL n E V L).getD k ([], [])).1).getD 0 0 ∈ cutsL V (blocksL n E V L)) := by
  obtain ⟨e, f, he, hf, hne, h1, h2⟩ := blocks_ne hp hi hk
  have hbi : (blocksL n E V L).getD i ([], []) ∈ blocksL n E V L := by rw [List.getD_eq_getElem?_getD, List.getElem?_eq_getElem hi]; exact List.getElem_mem hi
  obtain ⟨q1, q2, q3, q4⟩ := block_rises hp hbi
  refine ⟨?_, ?_, fun hl => ?_⟩
  · rw [h1, h2]
    refine List.eq_nil_iff_forall_not_mem.2 fun x hx => hne ?_
    obtain ⟨a, b⟩ := and_mem.1 hx
    exact class_eq hp he hf a b
  · have hnd : (andL ((blocksL n E V L).getD i ([], [])).1 ((blocksL n E V L).getD k ([], [])).1).Nodup := (asc_nodup (rises_iff.1 q1).1).sublist List.filter_sublist
    have hall : ∀ x ∈ andL ((blocksL n E V L).getD i ([], [])).1 ((blocksL n E V L).getD k ([], [])).1, ∀ y ∈ andL ((blocksL n E V L).getD i ([], [])).1 ((blocksL n E V L).getD k ([], [])).1, x = y := by
      intro x hx y hy
      obtain ⟨a, b⟩ := and_mem.1 hx
      obtain ⟨c, d⟩ := and_mem.1 hy
      rw [h1] at a c; rw [h2] at b d
      exact share_one hp he hf hne a b c d
    generalize andL ((blocksL n E V L).getD i ([], [])).1 ((blocksL n E V L).getD k ([], [])).1 = l at hnd hall
    match l, hnd, hall with
    | [], _, _ => simp
    | [x], _, _ => simp
    | x :: y :: l, hnd, hall => exact absurd (hall x (by simp) y (by simp)) (by simp at hnd; exact fun e => hnd.1.1 e)
  · have hx : (andL ((blocksL n E V L).getD i ([], [])).1 ((blocksL n E V L).getD k ([], [])).1).getD 0 0 ∈ andL ((blocksL n E V L).getD i ([], [])).1 ((blocksL n E V L).getD k ([], [])).1 := mem_getD.2 ⟨0, by omega, rfl⟩
    generalize (andL ((blocksL n E V L).getD i ([], [])).1 ((blocksL n E V L).getD k ([], [])).1).getD 0 0 = x at hx
    obtain ⟨a, b⟩ := and_mem.1 hx
    unfold cutsL
    rw [List.mem_filter, decide_eq_true_eq]
    refine ⟨q3 x a, ?_⟩
    unfold hasIn
    have hki : k < (blocksL n E V L).length := by omega
    have e1 : (blocksL n E V L)[i] = (blocksL n E V L).getD i ([], []) := by rw [List.getD_eq_getElem?_getD, List.getElem?_eq_getElem hi]; rfl
    have e2 : (blocksL n E V L)[k] = (blocksL n E V L).getD k ([], []) := by rw [List.getD_eq_getElem?_getD, List.getElem?_eq_getElem hki]; rfl
    have hsub : [(blocksL n E V L)[k], (blocksL n E V L)[i]].Sublist (blocksL n E V L) := by
      have := List.map_getElem_sublist (l := blocksL n E V L) (is := [⟨k, hki⟩, ⟨i, hi⟩]) (by simp [hk])
      simpa using this
    have := (hsub.filter fun b => decide (x ∈ b.1)).length_le
    rw [List.filter_cons_of_pos (by rw [e2]; exact decide_eq_true b), List.filter_cons_of_pos (by rw [e1]; exact decide_eq_true a)] at this
    simp at this
    omega
end
-- ---- what package block answers
def blocksE (n : Int) (E : List (Int × Int)) (V L : List Int) : List (List Int × List Int) := if partE n E V L ≠ 0 then [] else blocksL n E V L
def valAt (ins : List (Int × Value × List Int)) (k : Int) : List Int := match lastAt ins k with | some x => x.2 | none => []
theorem keys_len {ins : List (Int × Value × List Int)} {K : List Int} (hK : Asc K) (hKm : ∀ x, x ∈ K ↔ ∃ l, (x, l) ∈ ins) : K.length ≤ ins.length := by
  have h := nodup_le (asc_nodup hK) (m := ins.map fun q => q.1) fun x hx => by
    obtain ⟨l, hl⟩ := (hKm x).1 hx
    exact List.mem_map.2 ⟨_, hl, rfl⟩
  rwa [List.length_map] at h
theorem take_snoc {l : List Int} {i : Int} (h0 : 0 ≤ i) (h1 : i < (l.length : Int)) : l.take (i + 1).toNat = l.take i.toNat ++ [l.getD i.toNat 0] := by
  rw [show (i + 1).toNat = i.toNat + 1 by omega, List.take_add_one, List.getElem?_eq_getElem (by omega), List.getD_eq_getElem?_getD, List.getElem?_eq_getElem (by omega)]
  rfl
theorem blocks_val {n : Int} {E : List (Int × Int)} {V L : List Int} {s : St} {ins : List (Int × Value × List Int)} (hp : partE n E V L = 0) (R : Deep.Rest (grE E L) s) (hs : ∀ v ∈ V, s.met v ≠ 0) (hi : insOf ins = s.ins)
    {K : List Int} (hK : Asc K) (hKm : ∀ x, x ∈ K ↔ ∃ l, (x, l) ∈ ins) : K.map (fun k => (Lib.compact (sortL (endsL E (valAt ins k))), valAt ins k)) = blocksL n E V L := by
  refine blocks_eq hp R hs hK (fun k => ?_) fun k hk => ?_
  · rw [hKm, ← hi]
    constructor
    · rintro ⟨l, hl⟩; exact ⟨l.2, List.mem_map.2 ⟨_, hl, rfl⟩⟩
    · rintro ⟨l, hl⟩
      obtain ⟨q, hq, e⟩ := List.mem_map.1 hl
      simp only [Prod.mk.injEq] at e
      exact ⟨q.2, by rw [← e.1]; exact hq⟩
  · obtain ⟨l, hl⟩ := (hKm k).1 hk
    obtain ⟨x, hx⟩ := lastAt_some hl
    have hm := lastAt_mem hx
    rw [← hi]
    unfold valAt
    rw [hx]
    exact List.mem_map.2 ⟨_, hm, rfl⟩
theorem getD_mem {α : Type} {l : List α} {i : Nat} {d : α} (h : i < l.length) : l.getD i d ∈ l := by
  rw [List.getD_eq_getElem?_getD, List.getElem?_eq_getElem h]; exact List.getElem_mem h
theorem take_snocD {α : Type} {l : List α} {i : Int} {d : α} (h0 : 0 ≤ i) (h1 : i < (l.length : Int)) : l.take (i + 1).toNat = l.take i.toNat ++ [l.getD i.toNat d] := by
  rw [show (i + 1).toNat = i.toNat + 1 by omega, List.take_add_one, List.getElem?_eq_getElem (by omega), List.getD_eq_getElem?_getD, List.getElem?_eq_getElem (by omega)]
  rfl
theorem hasIn_snoc {bs : List (List Int × List Int)} {i x : Int} (h0 : 0 ≤ i) (h1 : i < (bs.length : Int)) : hasIn (bs.take (i + 1).toNat) x = hasIn (bs.take i.toNat) x ++ (if x ∈ (bs.getD i.toNat ([], [])).1 then [bs.getD i.toNat ([], [])] else []) := by
  unfold hasIn
  rw [take_snocD (d := ([], [])) h0 h1, List.filter_append, List.filter_cons]
  by_cases c : x ∈ (bs.getD i.toNat ([], [])).1
  · rw [if_pos c, if_pos (decide_eq_true c)]; rfl
  · rw [if_neg c, if_neg (by rw [decide_eq_true_eq]; exact c)]; rfl
def aroundE (n : Int) (E : List (Int × Int)) (V L : List Int) (x : Int) : List (List Int × List Int) := if partE n E V L ≠ 0 then [] else hasIn (blocksL n E V L) x
def cntI (bs : List (List Int × List Int)) (v : Int) : Int := ((hasIn bs v).length : Int)
def cnt0 : Int → Int := fun _ => 0
theorem cntI_le (bs : List (List Int × List Int)) (v : Int) : 0 ≤ cntI bs v ∧ cntI bs v ≤ (bs.length : Int) := by
  have : (hasIn bs v).length ≤ bs.length := List.length_filter_le _ _
  unfold cntI; omega
theorem cntI_snoc {bs : List (List Int × List Int)} {i x : Int} (h0 : 0 ≤ i) (h1 : i < (bs.length : Int)) : cntI (bs.take (i + 1).toNat) x = cntI (bs.take i.toNat) x + (if x ∈ (bs.getD i.toNat ([], [])).1 then 1 else 0) := by
  unfold cntI
  rw [hasIn_snoc h0 h1, List.length_append]
  split <;> simp
theorem cnt_step {c : Int → Int} {l : List Int} {k : Int} {f : Int → Int} (h0 : 0 ≤ k) (h1 : k < (l.length : Int)) (hn : l.Nodup) (h : ∀ v, f v = c v + (if v ∈ l.take k.toNat then 1 else 0)) (v : Int) :
    Deep.upd f (l.getD k.toNat 0) (f (l.getD k.toNat 0) + 1) v = c v + (if v ∈ l.take (k + 1).toNat then 1 else 0) := by
  have hs := take_snoc h0 h1
  have hnot : l.getD k.toNat 0 ∉ l.take k.toNat := by
    have h2 : (l.take (k + 1).toNat).Nodup := hn.sublist (List.take_sublist _ _)
    rw [hs, List.nodup_append] at h2
    exact fun hx => h2.2.2 _ hx _ (by simp) rfl
  rw [hs]
  by_cases e : v = l.getD k.toNat 0
  · rw [e, Deep.upd_same, h, if_neg hnot, if_pos (by simp)]; omega
  · rw [Deep.upd_ne _ _ e, h]
    simp only [List.mem_append, List.mem_singleton, e, or_false]
theorem cuts_upto {n : Int} {E : List (Int × Int)} {V L : List Int} (hp : partE n E V L = 0) : (upto n).filter (fun v => decide (1 < cntI (blocksL n E V L) v)) = cutsL V (blocksL n E V L) := by
  obtain ⟨_, hV, _, _⟩ := part_iff.1 hp
  refine asc_ext ((upto_asc n).sublist List.filter_sublist) ((rises_iff.1 hV).1.sublist List.filter_sublist) fun x => ?_
  unfold cutsL
  rw [List.mem_filter, List.mem_filter, decide_eq_true_eq, decide_eq_true_eq, mem_upto]
  have e : 1 < cntI (blocksL n E V L) x ↔ 1 < (hasIn (blocksL n E V L) x).length := by unfold cntI; omega
  rw [e]
  refine ⟨fun h => ⟨?_, h.2⟩, fun h => ⟨(rises_iff.1 hV).2 x h.1, h.2⟩⟩
  have hpos : 0 < (hasIn (blocksL n E V L) x).length := by omega
  have hm := List.getElem_mem hpos
  obtain ⟨h1, h2⟩ := List.mem_filter.1 hm
  exact (block_rises hp h1).2.2.1 x (of_decide_eq_true h2)
def cutsE (n : Int) (E : List (Int × Int)) (V L : List Int) : List Int := if partE n E V L ≠ 0 then [] else cutsL V (blocksL n E V L)
def solidB (n : Int) (E : List (Int × Int)) (V L : List Int) : Bool := (decide (partE n E V L = 0) && decide (((blocksE n E V L).length : Int) = 1)) && (decide (((blocksE n E V L).getD (0 : Int).toNat ([], [])).1 = V) && decide (((blocksE n E V L).getD (0 : Int).toNat ([], [])).2 = L))
-- ---- the reference's rounds
section
variable {n : Int} {E : List (Int × Int)} {V L : List Int} {a but : Int}
theorem sp_ends : ∀ e ∈ L, eA E e ∈ endsL E L ∧ eB E e ∈ endsL E L := fun e he => ⟨mem_endsL.2 ⟨e, he, .inl rfl⟩, mem_endsL.2 ⟨e, he, .inr rfl⟩⟩
theorem sp_first (h : a ≠ but) (ha : a ∈ endsL E L) : Sp (grE E L) a but (endsL E L) [a] :=
  ⟨by simp, by simp, fun x hx => by rw [List.mem_singleton.1 hx]; exact .refl h, fun x hx => by rw [List.mem_singleton.1 hx]; exact ha⟩
theorem sp_len {m : List Int} (h : Sp (grE E L) a but (endsL E L) m) : m.length ≤ 2 * L.length := by
  have := nodup_le h.nd h.sub
  rwa [endsL_len] at this
theorem spF_round {i : Int} {m : List Int} (h0 : 0 ≤ i) (h1 : i < (m.length : Int)) (h2 : m.length ≤ 2 * L.length) : spF E L but (2 * L.length + 1 - i.toNat) i.toNat m = spF E L but (2 * L.length + 1 - (i + 1).toNat) (i + 1).toNat (spRound E but i.toNat L m) := by
  rw [show 2 * L.length + 1 - i.toNat = (2 * L.length + 1 - (i + 1).toNat) + 1 by omega]
  conv => lhs; unfold spF
  rw [if_pos (by omega), show i.toNat + 1 = (i + 1).toNat by omega]
theorem spF_end {i : Nat} {m : List Int} {f : Nat} (h : ¬ i < m.length) : spF E L but f i m = m := by
  cases f with
  | zero => rfl
  | succ f => unfold spF; rw [if_neg h]
theorem spRound_snoc {k : Int} {i : Nat} {m : List Int} (h0 : 0 ≤ k) (h1 : k < (L.length : Int)) : spRound E but i (L.take (k + 1).toNat) m = spStep E but i (spRound E but i (L.take k.toNat) m) (L.getD k.toNat 0) := by
  rw [take_snoc h0 h1]; unfold spRound; rw [List.foldl_append]; rfl
theorem spStep_b {i : Nat} {m : List Int} {e : Int} : spStep E but i m e =
    bif (decide ((E.getD e.toNat (0, 0)).2 = (bif (decide ((E.getD e.toNat (0, 0)).1 = m.getD i 0) && !decide ((E.getD e.toNat (0, 0)).2 = but)) && !decide ((E.getD e.toNat (0, 0)).2 ∈ m) then m ++ [(E.getD e.toNat (0, 0)).2] else m).getD i 0) && !decide ((E.getD e.toNat (0, 0)).1 = but)) &&
        !decide ((E.getD e.toNat (0, 0)).1 ∈ (bif (decide ((E.getD e.toNat (0, 0)).1 = m.getD i 0) && !decide ((E.getD e.toNat (0, 0)).2 = but)) && !decide ((E.getD e.toNat (0, 0)).2 ∈ m) then m ++ [(E.getD e.toNat (0, 0)).2] else m))
      then (bif (decide ((E.getD e.toNat (0, 0)).1 = m.getD i 0) && !decide ((E.getD e.toNat (0, 0)).2 = but)) && !decide ((E.getD e.toNat (0, 0)).2 ∈ m) then m ++ [(E.getD e.toNat (0, 0)).2] else m) ++ [(E.getD e.toNat (0, 0)).1]
      else (bif (decide ((E.getD e.toNat (0, 0)).1 = m.getD i 0) && !decide ((E.getD e.toNat (0, 0)).2 = but)) && !decide ((E.getD e.toNat (0, 0)).2 ∈ m) then m ++ [(E.getD e.toNat (0, 0)).2] else m) := by
  have key : ∀ (x y : Int) (m : List Int), (bif (decide (x = m.getD i 0) && !decide (y = but)) && !decide (y ∈ m) then m ++ [y] else m) = if x = m.getD i 0 ∧ y ≠ but ∧ y ∉ m then m ++ [y] else m := by
    intro x y m
    by_cases h : x = m.getD i 0 ∧ y ≠ but ∧ y ∉ m
    · rw [if_pos h]; simp [h.1, h.2.1, h.2.2]
    · rw [if_neg h]
      by_cases h1 : x = m.getD i 0
      · by_cases h2 : y = but
        · simp [h2]
        · have h3 : y ∈ m := Classical.byContradiction fun q => h ⟨h1, h2, q⟩
          simp [h3]
      · rw [decide_eq_false h1]; rfl
  rw [key, key]
  rfl
def repsL (n : Int) (E : List (Int × Int)) (V L M : List Int) : List (List Int × List Int) := (M.filter fun e => decide ((classL E V L e).getD 0 0 = e)).map fun e => (touchL E (classL E V L e) n, classL E V L e)
theorem repsL_snoc {i : Int} (h0 : 0 ≤ i) (h1 : i < (L.length : Int)) : repsL n E V L (L.take (i + 1).toNat) = repsL n E V L (L.take i.toNat) ++
    (if (classL E V L (L.getD i.toNat 0)).getD (0 : Int).toNat 0 = L.getD i.toNat 0 then [(touchL E (classL E V L (L.getD i.toNat 0)) n, classL E V L (L.getD i.toNat 0))] else []) := by
  unfold repsL
  rw [take_snoc h0 h1, List.filter_append, List.map_append, List.filter_cons]
  rw [show (0 : Int).toNat = 0 from rfl]
  by_cases c : (classL E V L (L.getD i.toNat 0)).getD 0 0 = L.getD i.toNat 0
  · rw [if_pos (decide_eq_true c), if_pos c]; rfl
  · rw [if_neg (by rw [decide_eq_true_eq]; exact c), if_neg c]; rfl
theorem cutsL_snoc {l : List Int} {x : Int} {bs : List (List Int × List Int)} {r : List Int} (h : (1 < (hasIn bs x).length ∧ r = cutsL l bs ++ [x]) ∨ (¬ 1 < (hasIn bs x).length ∧ r = cutsL l bs)) : cutsL (l ++ [x]) bs = r := by
  unfold cutsL at *
  rw [List.filter_append, List.filter_cons]
  rcases h with ⟨h, rfl⟩ | ⟨h, rfl⟩
  · rw [if_pos (decide_eq_true h)]; rfl
  · rw [if_neg (by rw [decide_eq_true_eq]; exact h)]; simp
end
end Go.Proofs.Ytahonnlgkmimlaa

set_option linter.unusedSimpArgs false
set_option linter.unusedVariables false
namespace Go.Proofs.Ytahonnlgkmimlaa
open Go.RowKit

/-- An element that is two slices. -/
theorem cell_twoC {α β : Type} [Data α] [Data β] {T : Stab} {C : World → Prop} {w : World} {v : Value} {l : List (List α × List β)} (hC : ∀ w', C w' → Keeps T w w') (h : Rd T w v l) (i : Int) :
    ∃ a b, (0 ≤ i → i < (l.length : Int) → RowOk C (hdB v) (hdO v + i.toNat * 2) 2 #[a, b]) ∧ (0 ≤ i → i < (l.length : Int) → Rd T w a (l.getD i.toNat ([], [])).1) ∧ (0 ≤ i → i < (l.length : Int) → Rd T w b (l.getD i.toNat ([], [])).2) := by
  by_cases hb : 0 ≤ i ∧ i < (l.length : Int)
  · obtain ⟨cs, ⟨c1, c2, rfl, ⟨u1, rfl, h1⟩, ⟨u2, rfl, h2⟩⟩, hc⟩ := cells_atC hC h hb.1 hb.2 ([], [])
    refine ⟨u1, u2, fun _ _ => ⟨rfl, fun w' hw' j hj => ?_⟩, fun _ _ => slice_rd h1, fun _ _ => slice_rd h2⟩
    have := hc j (show j < 1 + 1 by omega) w' hw'
    have e : hdO v + i.toNat * Data.size (List α × List β) + j = hdO v + i.toNat * 2 + j := rfl
    rw [e] at this
    rw [this]
    rcases j with _ | _ | j
    · rfl
    · rfl
    · omega
  · exact ⟨undef, undef, fun a b => (hb ⟨a, b⟩).elim, fun a b => (hb ⟨a, b⟩).elim, fun a b => (hb ⟨a, b⟩).elim⟩
theorem cell_two {α β : Type} [Data α] [Data β] {w : World} {v : Value} {l : List (List α × List β)} (h : Rd (· < w.heap.size) w v l) (i : Int) :
    ∃ a b, (0 ≤ i → i < (l.length : Int) → RowOk (On w) (hdB v) (hdO v + i.toNat * 2) 2 #[a, b]) ∧ (0 ≤ i → i < (l.length : Int) → Rd (· < w.heap.size) w a (l.getD i.toNat ([], [])).1) ∧ (0 ≤ i → i < (l.length : Int) → Rd (· < w.heap.size) w b (l.getD i.toNat ([], [])).2) :=
  cell_twoC (fun w' hw' => Keeps.below hw') h i
theorem row_cellC {C : World → Prop} {b o n : Nat} {us : Array Value} (h : RowOk C b o n us) (j : Nat) {u : Value} (hu : us[j]? = some u := by kernel_rfl) (hj : decide (j < n) = true := by kernel_rfl) : CellOk C b (o + j) u := fun w hw => by
  rw [h.2 w hw j (of_decide_eq_true hj), hu]
theorem row_headC {C : World → Prop} {b o n : Nat} {us : Array Value} (h : RowOk C b o n us) {u : Value} (hu : us[0]? = some u := by kernel_rfl) (hj : decide (0 < n) = true := by kernel_rfl) : CellOk C b o u := fun w hw => by
  have := h.2 w hw 0 (of_decide_eq_true hj); rw [Nat.add_zero] at this; rw [this, hu]

theorem Fr.keepsA {o : Orig} {w : World} {S : Stab} {rs : List Res} (H : Fr o w S rs) : ∀ w', On w w' → Keeps (· < o.w.heap.size) o.w w' := fun w' hw' k hk => (hw'.block k (Nat.lt_of_lt_of_le hk H.below.size)).trans (H.below.block k hk)
theorem Fr.keepsA2 {o : Orig} {w : World} {S : Stab} {rs : List Res} {C : World → Prop} (H : Fr o w S rs) (hM : ∀ w', C w' → Keeps (Old o S) w w') : ∀ w', C w' → Keeps (· < o.w.heap.size) o.w w' := fun w' hw' k hk => (hM w' hw' k (.inl hk)).trans (H.below.block k hk)
theorem keepsS2 {o : Orig} {w : World} {S : Stab} {C : World → Prop} (hM : ∀ w', C w' → Keeps (Old o S) w w') : ∀ w', C w' → Keeps S w w' := fun w' hw' k hk => hM w' hw' k (.inr hk)
end Go.Proofs.Ytahonnlgkmimlaa

namespace Go.Proofs.Ytahonnlgkmimlaa
open Go.RowKit
theorem Try.E56 : Elem Try.prog 56 29 2 48 := elem_of (z := .agg #[.slice none 0 0, .slice none 0 0]) Try.underlying56 (by kernel_rfl) rfl (by decide)
end Go.Proofs.Ytahonnlgkmimlaa

set_option linter.unusedSimpArgs false
set_option linter.unusedVariables false
namespace Go.Proofs.Ytahonnlgkmimlaa
open Go.RowKit

set_option maxRecDepth 100000 in
set_option maxHeartbeats 1000000 in
theorem right_any (n : Int) (ve : Value) (E : List (Int × Int)) (w : World) (hn : -9223372036854775808 ≤ n ∧ n ≤ 9223372036854775807) (hE : Rd (· < w.heap.size) w ve E) :
  Calls Try.prog 20 [.agg #[.int .i64 n, ve]].toArray w (Ans (.int .i64 (rightE n E)) w) := by
  refine enter Try.f20 50 Try.func20 fun a hA => ?_
  replace hA := env_sub [(0, .agg #[.int .i64 n, ve])] hA
  have H := Fr.start (org w)
  refine go_seq fun K1 hK1 => ?_
  refine region_list ?_
  refine list_at 0 ?_; refine q_box 0 1 24 (.tmp 0) (.agg #[.int .i64 n, ve]) [.int .i64 n, ve] [] hA H fun b2 a w3 H hA hG hge_b2 => ?_
  clear hge_b2
  refine q_list 1 1 [] [(1, .pointer (some ⟨b2, 0, none⟩))] ((True) ∧ True) hA H ⟨trivial, trivial⟩ fun a w4 hA H hG => ?_
  refine list_end ?_
  refine hK1 _ _ ?_
  refine go_seq fun K5 hK5 => ?_
  refine go_seq fun K6 hK6 => ?_
  refine q_reg [(6, .int .i64 n)] [(1, .pointer (some ⟨b2, 0, none⟩)), (7, .bool (decide (n < 0)))] ((0 < Try.prog.cellsOf 3) ∧ (CellOk (On w4) b2 (0 + 0) (.int .i64 n)) ∧ (True) ∧ True) hA H ⟨by decide +kernel, by exact box_cell H 0 rfl 0, trivial, trivial⟩ fun a w7 hA H hG => ?_
  refine hK6 _ _ ?_
  refine go_cond hA (.tmp 7) (decide (n < 0)) (fun hb8 => ?_) (fun hb8 => ?_)
  · have hhb8 := of_decide_eq_true hb8
    refine go_seq fun K9 hK9 => ?_
    refine q_reg [] [(2, .int .i64 3)] ((True) ∧ True) hA H ⟨trivial, trivial⟩ fun a w10 hA H hG => ?_
    refine hK9 _ _ ?_
    refine go_ret_ ?_
    refine ret_one 2 (.int .i64 3) hA ?_
    exact ans_i' (by unfold rightE; first | rw [if_pos (by omega)] | rw [if_neg (by omega), if_pos (by omega)]) H.below
  · have hhb8 := of_decide_eq_false hb8
    refine go_skip ?_
    refine hK5 _ _ ?_
    refine go_seq fun K11 hK11 => ?_
    refine go_seq fun K12 hK12 => ?_
    refine q_reg [(9, .int .i64 n), (13, ve), (14, .int .i64 (E.length : Int)), (16, .int .i64 n)] [(1, .pointer (some ⟨b2, 0, none⟩)), (19, .bool ((decide ((1024 : Int) < n)) || (decide (1024 - n < (E.length : Int)))))] ((0 < Try.prog.cellsOf 3) ∧ (CellOk (On w7) b2 (0 + 0) (.int .i64 n)) ∧ (True) ∧ (True) ∧ ((decide ((1024 : Int) < n)) = false → 0 < Try.prog.cellsOf 22) ∧ ((decide ((1024 : Int) < n)) = false → CellOk (On w7) b2 (0 + 1) (ve)) ∧ ((decide ((1024 : Int) < n)) = false → LenOk ve (E.length : Int)) ∧ ((decide ((1024 : Int) < n)) = false → 0 < Try.prog.cellsOf 3) ∧ ((decide ((1024 : Int) < n)) = false → CellOk (On w7) b2 (0 + 0) (.int .i64 n)) ∧ ((decide ((1024 : Int) < n)) = false → InR .i64 (1024 - n)) ∧ ((decide ((1024 : Int) < n)) = false → True) ∧ (True) ∧ True) hA H ⟨by decide +kernel, by exact box_cell H 0 rfl 0, trivial, trivial, fun _ => by decide +kernel, fun _ => by exact box_cell H 0 rfl 1, fun _ => by exact len_ok (H.arg hE), fun _ => by decide +kernel, fun _ => by exact box_cell H 0 rfl 0, fun hg0 => by replace hg0 := of_decide_eq_false hg0; exact ⟨by omega, by omega⟩, fun _ => trivial, trivial, trivial⟩ fun a w13 hA H hG => ?_
    refine hK12 _ _ ?_
    refine go_cond hA (.tmp 19) ((decide ((1024 : Int) < n)) || (decide (1024 - n < (E.length : Int)))) (fun hb14 => ?_) (fun hb14 => ?_)
    · have hhb14 := (oT hb14).imp (fun h => of_decide_eq_true h) (fun h => of_decide_eq_true h)
      refine go_seq fun K15 hK15 => ?_
      refine q_reg [] [(2, .int .i64 2)] ((True) ∧ True) hA H ⟨trivial, trivial⟩ fun a w16 hA H hG => ?_
      refine hK15 _ _ ?_
      refine go_ret_ ?_
      refine ret_one 2 (.int .i64 2) hA ?_
      exact ans_i' (by unfold rightE; first | rw [if_pos (by omega)] | rw [if_neg (by omega), if_pos (by omega)]) H.below
    · have hhb14 := (⟨of_decide_eq_false ((oF hb14).1), of_decide_eq_false ((oF hb14).2)⟩ : _ ∧ _)
      refine go_skip ?_
      refine hK11 _ _ ?_
      refine go_seq fun K17 hK17 => ?_
      refine go_seq fun K18 hK18 => ?_
      refine q_reg [(21, ve), (22, .int .i64 (E.length : Int))] [(1, .pointer (some ⟨b2, 0, none⟩)), (21, ve), (22, .int .i64 (E.length : Int)), (23, .int .i64 0)] ((0 < Try.prog.cellsOf 22) ∧ (CellOk (On w13) b2 (0 + 1) (ve)) ∧ (LenOk ve (E.length : Int)) ∧ (True) ∧ True) hA H ⟨by decide +kernel, by exact box_cell H 0 rfl 1, by exact len_ok (H.arg hE), trivial, trivial⟩ fun a w19 hA H hG => ?_
      refine hK18 _ _ ?_
      refine go_block 0 ?_
      refine go_loop_ (Int) (fun x_ a W => (fun (i : Int) => EnvOk 50 a (keepEnv [(1, .pointer (some ⟨b2, 0, none⟩)), (21, ve), (22, .int .i64 (E.length : Int)), (23, .int .i64 i)]) ∧ (∃ S, Fr (org w) W S [.box b2 24 [.int .i64 n, ve]]) ∧ 0 ≤ i ∧ ∀ j : Nat, (j : Int) < i → okE n (E.getD j (0, 0))) x_) (fun x_ => (fun (i : Int) => ((E.length : Int) - i).toNat) x_) (0) ?_ (fun i a w21 hI => ?_)
      · (try dsimp only); exact ⟨env_sub _ hA, ⟨_, H⟩, by omega, fun j hj => by omega⟩
      obtain ⟨hA, ⟨S, H⟩, h0, hok⟩ := hI
      try dsimp only at h0 hok
      refine go_seq fun K22 hK22 => ?_
      refine q_reg [] [(1, .pointer (some ⟨b2, 0, none⟩)), (21, ve), (22, .int .i64 (E.length : Int)), (23, .int .i64 i), (24, .bool (decide (i < (E.length : Int))))] ((True) ∧ True) hA H ⟨trivial, trivial⟩ fun a w23 hA H hG => ?_
      refine hK22 _ _ ?_
      refine go_seq fun K24 hK24 => ?_
      refine go_cond hA (.tmp 24) (decide (i < (E.length : Int))) (fun hb25 => ?_) (fun hb25 => ?_)
      · have hhb25 := of_decide_eq_true hb25
        refine go_skip ?_
        refine hK24 _ _ ?_
        refine go_seq fun K26 hK26 => ?_
        refine go_block 1 ?_
        refine go_seq fun K27 hK27 => ?_
        refine region_list ?_
        refine q_list 0 2 [(26, .agg #[.int .i64 ((E.getD i.toNat (0, 0)).1), .int .i64 ((E.getD i.toNat (0, 0)).2)])] [(1, .pointer (some ⟨b2, 0, none⟩)), (21, ve), (22, .int .i64 (E.length : Int)), (23, .int .i64 i), (26, .agg #[.int .i64 ((E.getD i.toNat (0, 0)).1), .int .i64 ((E.getD i.toNat (0, 0)).2)])] (((Try.prog.info? 99).isSome = true ∧ IdxOk ve i) ∧ ((Try.prog.info? 99).isSome = true ∧ RowOk (On w23) (hdB ve) (hdO ve + i.toNat * 2) (Try.prog.cellsOf 99) #[.int .i64 ((E.getD i.toNat (0, 0)).1), .int .i64 ((E.getD i.toNat (0, 0)).2)]) ∧ True) hA H ⟨⟨by kernel_rfl, by exact idx_ok (H.arg hE) (by omega) (by omega)⟩, ⟨by kernel_rfl, by exact row_flat (i := i) (H.arg hE) (by omega) (by omega) (0, 0)⟩, trivial⟩ fun a w28 hA H hG => ?_
        refine list_at 2 ?_; refine q_alloc 2 4 99 [.int .i64 0, .int .i64 0] [(1, .pointer (some ⟨b2, 0, none⟩)), (21, ve), (22, .int .i64 (E.length : Int)), (23, .int .i64 i), (26, .agg #[.int .i64 ((E.getD i.toNat (0, 0)).1), .int .i64 ((E.getD i.toNat (0, 0)).2)])] hA H fun b29 a w30 H hA hG hge_b29 => ?_
        clear hge_b29
        refine list_at 3 ?_; refine q_store 3 99 (.tmp 4) (.tmp 26) 0 b29 (0) 99 [.int .i64 0, .int .i64 0] [.int .i64 ((E.getD i.toNat (0, 0)).1), .int .i64 ((E.getD i.toNat (0, 0)).2)] [.int .i64 ((E.getD i.toNat (0, 0)).1), .int .i64 ((E.getD i.toNat (0, 0)).2)] (.agg #[.int .i64 ((E.getD i.toNat (0, 0)).1), .int .i64 ((E.getD i.toNat (0, 0)).2)]) [(1, .pointer (some ⟨b2, 0, none⟩)), (4, .pointer (some ⟨b29, 0, none⟩)), (21, ve), (22, .int .i64 (E.length : Int)), (23, .int .i64 i)] hA H rfl rfl (Nat.le_of_ble_eq_true (by kernel_rfl)) rfl (fun v hv => by simp only [List.mem_cons, List.not_mem_nil, or_false] at hv; rcases hv with rfl | rfl; exact rfl; exact rfl) fun a w31 H hA hG => ?_
        replace H : Fr _ _ _ [.box b29 99 [.int .i64 ((E.getD i.toNat (0, 0)).1), .int .i64 ((E.getD i.toNat (0, 0)).2)], .box b2 24 [.int .i64 n, ve]] := H
        refine list_end ?_
        refine hK27 _ _ ?_
        refine go_seq fun K32 hK32 => ?_
        refine q_reg [(28, .int .i64 ((E.getD i.toNat (0, 0)).1)), (32, .int .i64 ((E.getD i.toNat (0, 0)).1)), (34, .int .i64 n), (39, .int .i64 ((E.getD i.toNat (0, 0)).2)), (44, .int .i64 ((E.getD i.toNat (0, 0)).2)), (46, .int .i64 n)] [(1, .pointer (some ⟨b2, 0, none⟩)), (21, ve), (22, .int .i64 (E.length : Int)), (23, .int .i64 i), (48, .bool ((((decide ((E.getD i.toNat (0, 0)).1 < 0)) || (decide (n ≤ (E.getD i.toNat (0, 0)).1))) || (decide ((E.getD i.toNat (0, 0)).2 < 0))) || (decide (n ≤ (E.getD i.toNat (0, 0)).2))))] ((0 < Try.prog.cellsOf 3) ∧ (CellOk (On w31) b29 (0 + 0) (.int .i64 ((E.getD i.toNat (0, 0)).1))) ∧ (True) ∧ (True) ∧ ((decide ((E.getD i.toNat (0, 0)).1 < 0)) = false → 0 < Try.prog.cellsOf 3) ∧ ((decide ((E.getD i.toNat (0, 0)).1 < 0)) = false → CellOk (On w31) b29 (0 + 0) (.int .i64 ((E.getD i.toNat (0, 0)).1))) ∧ ((decide ((E.getD i.toNat (0, 0)).1 < 0)) = false → 0 < Try.prog.cellsOf 3) ∧ ((decide ((E.getD i.toNat (0, 0)).1 < 0)) = false → CellOk (On w31) b2 (0 + 0) (.int .i64 n)) ∧ ((decide ((E.getD i.toNat (0, 0)).1 < 0)) = false → True) ∧ (True) ∧ (True) ∧ (((decide ((E.getD i.toNat (0, 0)).1 < 0)) || (decide (n ≤ (E.getD i.toNat (0, 0)).1))) = false → 0 < Try.prog.cellsOf 3) ∧ (((decide ((E.getD i.toNat (0, 0)).1 < 0)) || (decide (n ≤ (E.getD i.toNat (0, 0)).1))) = false → CellOk (On w31) b29 (0 + 1) (.int .i64 ((E.getD i.toNat (0, 0)).2))) ∧ (((decide ((E.getD i.toNat (0, 0)).1 < 0)) || (decide (n ≤ (E.getD i.toNat (0, 0)).1))) = false → True) ∧ (True) ∧ (True) ∧ ((((decide ((E.getD i.toNat (0, 0)).1 < 0)) || (decide (n ≤ (E.getD i.toNat (0, 0)).1))) || (decide ((E.getD i.toNat (0, 0)).2 < 0))) = false → 0 < Try.prog.cellsOf 3) ∧ ((((decide ((E.getD i.toNat (0, 0)).1 < 0)) || (decide (n ≤ (E.getD i.toNat (0, 0)).1))) || (decide ((E.getD i.toNat (0, 0)).2 < 0))) = false → CellOk (On w31) b29 (0 + 1) (.int .i64 ((E.getD i.toNat (0, 0)).2))) ∧ ((((decide ((E.getD i.toNat (0, 0)).1 < 0)) || (decide (n ≤ (E.getD i.toNat (0, 0)).1))) || (decide ((E.getD i.toNat (0, 0)).2 < 0))) = false → 0 < Try.prog.cellsOf 3) ∧ ((((decide ((E.getD i.toNat (0, 0)).1 < 0)) || (decide (n ≤ (E.getD i.toNat (0, 0)).1))) || (decide ((E.getD i.toNat (0, 0)).2 < 0))) = false → CellOk (On w31) b2 (0 + 0) (.int .i64 n)) ∧ ((((decide ((E.getD i.toNat (0, 0)).1 < 0)) || (decide (n ≤ (E.getD i.toNat (0, 0)).1))) || (decide ((E.getD i.toNat (0, 0)).2 < 0))) = false → True) ∧ (True) ∧ True) hA H ⟨by decide +kernel, by exact box_cell H 0 rfl 0, trivial, trivial, fun _ => by decide +kernel, fun _ => by exact box_cell H 0 rfl 0, fun _ => by decide +kernel, fun _ => by exact box_cell H 1 rfl 0, fun _ => trivial, trivial, trivial, fun _ => by decide +kernel, fun _ => by exact box_cell H 0 rfl 1, fun _ => trivial, trivial, trivial, fun _ => by decide +kernel, fun _ => by exact box_cell H 0 rfl 1, fun _ => by decide +kernel, fun _ => by exact box_cell H 1 rfl 0, fun _ => trivial, trivial, trivial⟩ fun a w33 hA H hG => ?_
        refine hK32 _ _ ?_
        refine go_cond hA (.tmp 48) ((((decide ((E.getD i.toNat (0, 0)).1 < 0)) || (decide (n ≤ (E.getD i.toNat (0, 0)).1))) || (decide ((E.getD i.toNat (0, 0)).2 < 0))) || (decide (n ≤ (E.getD i.toNat (0, 0)).2))) (fun hb34 => ?_) (fun hb34 => ?_)
        · have hhb34 := (oT hb34).imp (fun h => (oT h).imp (fun h => (oT h).imp (fun h => of_decide_eq_true h) (fun h => of_decide_eq_true h)) (fun h => of_decide_eq_true h)) (fun h => of_decide_eq_true h)
          refine go_seq fun K35 hK35 => ?_
          refine q_reg [] [(2, .int .i64 3)] ((True) ∧ True) hA H ⟨trivial, trivial⟩ fun a w36 hA H hG => ?_
          refine hK35 _ _ ?_
          refine go_ret_ ?_
          refine ret_one 2 (.int .i64 3) hA ?_
          exact ans_i' ((rightE_bad (by omega) (by omega) (by omega) h0 (by omega) (by unfold okE; have := hhb34; omega)).symm) H.below
        · have hhb34 := (⟨(⟨(⟨of_decide_eq_false ((oF ((oF ((oF hb34).1)).1)).1), of_decide_eq_false ((oF ((oF ((oF hb34).1)).1)).2)⟩ : _ ∧ _), of_decide_eq_false ((oF ((oF hb34).1)).2)⟩ : _ ∧ _), of_decide_eq_false ((oF hb34).2)⟩ : _ ∧ _)
          refine go_skip ?_
          refine hK26 _ _ ?_
          refine q_reg [] [(1, .pointer (some ⟨b2, 0, none⟩)), (21, ve), (22, .int .i64 (E.length : Int)), (23, .int .i64 (i + 1))] ((InR .i64 (i + 1)) ∧ (True) ∧ True) hA H ⟨⟨by omega, by omega⟩, trivial, trivial⟩ fun a w37 hA H hG => ?_
          replace H := H.drop 0
          refine ⟨(i + 1), ⟨env_sub _ hA, ⟨_, H⟩, ?_⟩, ?_⟩
          · (try dsimp only); exact ⟨by omega, fun j hj => if e : (j : Int) = i then (by rw [show j = i.toNat by omega]; unfold okE; have := hhb34; omega) else hok j (by omega)⟩
          · (try dsimp only); omega
      · have hhb25 := of_decide_eq_false hb25
        refine go_exit 0 ?_
        refine hK17 _ _ ?_
        refine go_seq fun K38 hK38 => ?_
        refine q_reg [] [(2, .int .i64 0)] ((True) ∧ True) hA H ⟨trivial, trivial⟩ fun a w39 hA H hG => ?_
        refine hK38 _ _ ?_
        refine go_ret_ ?_
        refine ret_one 2 (.int .i64 0) hA ?_
        exact ans_i' ((rightE_ok (by omega) (by omega) (by omega) (by omega) hok).symm) H.below

set_option maxRecDepth 100000 in
set_option maxHeartbeats 1000000 in
theorem rising_any (v : Value) (l : List Int) (n : Int) (w : World) (hl : Rd (· < w.heap.size) w v l) :
  Calls Try.prog 73 [v, .int .i64 n].toArray w (Ans (.bool (decide (risesP l n))) w) := by
  have hlen := rd_len hl
  refine enter Try.f73 35 Try.func73 fun a hA => ?_
  replace hA := env_sub [(0, v), (1, .int .i64 n)] hA
  have H := Fr.start (org w)
  refine go_seq fun K1 hK1 => ?_
  refine q_reg [] [(0, v), (1, .int .i64 n)] ((True) ∧ True) hA H ⟨trivial, trivial⟩ fun a w2 hA H hG => ?_
  refine hK1 _ _ ?_
  refine go_seq fun K3 hK3 => ?_
  refine go_seq fun K4 hK4 => ?_
  refine q_reg [(8, .int .i64 (l.length : Int))] [(0, v), (1, .int .i64 n), (7, v), (8, .int .i64 (l.length : Int)), (9, .int .i64 0)] ((True) ∧ (LenOk v (l.length : Int)) ∧ (True) ∧ True) hA H ⟨trivial, by exact len_ok (H.arg hl), trivial, trivial⟩ fun a w5 hA H hG => ?_
  refine hK4 _ _ ?_
  refine go_block 0 ?_
  refine go_loop_ (Int) (fun x_ a W => (fun (i : Int) => EnvOk 35 a (keepEnv [(0, v), (1, .int .i64 n), (7, v), (8, .int .i64 (l.length : Int)), (9, .int .i64 i)]) ∧ (∃ S, Fr (org w) W S []) ∧ 0 ≤ i ∧ ∀ j : Nat, (j : Int) < i → 0 ≤ l.getD j 0 ∧ l.getD j 0 < n ∧ (0 < j → l.getD (j - 1) 0 < l.getD j 0)) x_) (fun x_ => (fun (i : Int) => ((l.length : Int) - i).toNat) x_) (0) ?_ (fun i a w7 hI => ?_)
  · (try dsimp only); exact ⟨env_sub _ hA, ⟨_, H⟩, by omega, fun j hj => by omega⟩
  obtain ⟨hA, ⟨S, H⟩, h0, hok⟩ := hI
  try dsimp only at h0 hok
  refine go_seq fun K8 hK8 => ?_
  refine q_reg [] [(0, v), (1, .int .i64 n), (7, v), (8, .int .i64 (l.length : Int)), (9, .int .i64 i), (10, .bool (decide (i < (l.length : Int))))] ((True) ∧ True) hA H ⟨trivial, trivial⟩ fun a w9 hA H hG => ?_
  refine hK8 _ _ ?_
  refine go_seq fun K10 hK10 => ?_
  refine go_cond hA (.tmp 10) (decide (i < (l.length : Int))) (fun hb11 => ?_) (fun hb11 => ?_)
  · have hhb11 := of_decide_eq_true hb11
    refine go_skip ?_
    refine hK10 _ _ ?_
    refine go_seq fun K12 hK12 => ?_
    refine go_block 1 ?_
    refine go_seq fun K13 hK13 => ?_
    refine q_reg [(13, .int .i64 (l.getD i.toNat 0))] [(0, v), (1, .int .i64 n), (5, .int .i64 i), (6, .int .i64 (l.getD i.toNat 0)), (7, v), (8, .int .i64 (l.length : Int)), (9, .int .i64 i)] ((True) ∧ ((Try.prog.info? 3).isSome = true ∧ IdxOk v i) ∧ (CellOk (On w9) (hdB v) (hdO v + i.toNat * 1) (.int .i64 (l.getD i.toNat 0))) ∧ (True) ∧ (True) ∧ True) hA H ⟨trivial, ⟨by kernel_rfl, by exact idx_ok (H.arg hl) (by omega) (by omega)⟩, by exact cell_flat (i := i) (H.arg hl) (by omega) (by omega) 0 0, trivial, trivial, trivial⟩ fun a w14 hA H hG => ?_
    refine hK13 _ _ ?_
    refine go_seq fun K15 hK15 => ?_
    refine q_reg [(30, .int .i64 (l.getD (i - 1).toNat 0))] [(0, v), (1, .int .i64 n), (7, v), (8, .int .i64 (l.length : Int)), (9, .int .i64 i), (33, .bool (((decide ((l.getD i.toNat 0) < 0)) || (decide (n ≤ (l.getD i.toNat 0)))) || ((decide ((0 : Int) < i)) && (decide ((l.getD i.toNat 0) ≤ (l.getD (i - 1).toNat 0))))))] ((True) ∧ (True) ∧ (True) ∧ ((decide ((l.getD i.toNat 0) < 0)) = false → True) ∧ ((decide ((l.getD i.toNat 0) < 0)) = false → True) ∧ ((decide ((l.getD i.toNat 0) < 0)) = false → True) ∧ (True) ∧ (True) ∧ (((decide ((l.getD i.toNat 0) < 0)) || (decide (n ≤ (l.getD i.toNat 0)))) = false → True) ∧ (((decide ((l.getD i.toNat 0) < 0)) || (decide (n ≤ (l.getD i.toNat 0)))) = false → True) ∧ (((decide ((l.getD i.toNat 0) < 0)) || (decide (n ≤ (l.getD i.toNat 0)))) = false → True) ∧ (((decide ((l.getD i.toNat 0) < 0)) || (decide (n ≤ (l.getD i.toNat 0)))) = false → (decide ((0 : Int) < i)) = true → True) ∧ (((decide ((l.getD i.toNat 0) < 0)) || (decide (n ≤ (l.getD i.toNat 0)))) = false → (decide ((0 : Int) < i)) = true → True) ∧ (((decide ((l.getD i.toNat 0) < 0)) || (decide (n ≤ (l.getD i.toNat 0)))) = false → (decide ((0 : Int) < i)) = true → True) ∧ (((decide ((l.getD i.toNat 0) < 0)) || (decide (n ≤ (l.getD i.toNat 0)))) = false → (decide ((0 : Int) < i)) = true → InR .i64 (i - 1)) ∧ (((decide ((l.getD i.toNat 0) < 0)) || (decide (n ≤ (l.getD i.toNat 0)))) = false → (decide ((0 : Int) < i)) = true → (Try.prog.info? 3).isSome = true ∧ IdxOk v (i - 1)) ∧ (((decide ((l.getD i.toNat 0) < 0)) || (decide (n ≤ (l.getD i.toNat 0)))) = false → (decide ((0 : Int) < i)) = true → CellOk (On w14) (hdB v) (hdO v + (i - 1).toNat * 1) (.int .i64 (l.getD (i - 1).toNat 0))) ∧ (((decide ((l.getD i.toNat 0) < 0)) || (decide (n ≤ (l.getD i.toNat 0)))) = false → (decide ((0 : Int) < i)) = true → True) ∧ (((decide ((l.getD i.toNat 0) < 0)) || (decide (n ≤ (l.getD i.toNat 0)))) = false → True) ∧ (True) ∧ True) hA H ⟨trivial, trivial, trivial, fun _ => trivial, fun _ => trivial, fun _ => trivial, trivial, trivial, fun _ => trivial, fun _ => trivial, fun _ => trivial, fun _ _ => trivial, fun _ _ => trivial, fun _ _ => trivial, fun hg0 hg1 => by replace hg0 := (⟨of_decide_eq_false ((oF hg0).1), of_decide_eq_false ((oF hg0).2)⟩ : _ ∧ _); replace hg1 := of_decide_eq_true hg1; exact ⟨by omega, by omega⟩, fun hg0 hg1 => by replace hg0 := (⟨of_decide_eq_false ((oF hg0).1), of_decide_eq_false ((oF hg0).2)⟩ : _ ∧ _); replace hg1 := of_decide_eq_true hg1; exact ⟨by kernel_rfl, by exact idx_ok (H.arg hl) (by omega) (by omega)⟩, fun hg0 hg1 => by replace hg0 := (⟨of_decide_eq_false ((oF hg0).1), of_decide_eq_false ((oF hg0).2)⟩ : _ ∧ _); replace hg1 := of_decide_eq_true hg1; exact by exact cell_flat (i := i - 1) (H.arg hl) (by omega) (by omega) 0 0, fun _ _ => trivial, fun _ => trivial, trivial, trivial⟩ fun a w16 hA H hG => ?_
    refine hK15 _ _ ?_
    refine go_cond hA (.tmp 33) (((decide ((l.getD i.toNat 0) < 0)) || (decide (n ≤ (l.getD i.toNat 0)))) || ((decide ((0 : Int) < i)) && (decide ((l.getD i.toNat 0) ≤ (l.getD (i - 1).toNat 0))))) (fun hb17 => ?_) (fun hb17 => ?_)
    · have hhb17 := (oT hb17).imp (fun h => (oT h).imp (fun h => of_decide_eq_true h) (fun h => of_decide_eq_true h)) (fun h => (⟨of_decide_eq_true ((aT h).1), of_decide_eq_true ((aT h).2)⟩ : _ ∧ _))
      refine go_seq fun K18 hK18 => ?_
      refine q_reg [] [(4, .bool false)] ((True) ∧ True) hA H ⟨trivial, trivial⟩ fun a w19 hA H hG => ?_
      refine hK18 _ _ ?_
      refine go_ret_ ?_
      refine ret_one 4 (.bool false) hA ?_
      exact ans_b' ((decide_eq_false (fun q => by have := q i.toNat (by omega); have z := hhb17; rw [show (i - 1).toNat = i.toNat - 1 by omega] at z; omega)).symm) H.below
    · have hhb17 := (⟨(⟨of_decide_eq_false ((oF ((oF hb17).1)).1), of_decide_eq_false ((oF ((oF hb17).1)).2)⟩ : _ ∧ _), (aF ((oF hb17).2)).imp (fun h => of_decide_eq_false h) (fun h => of_decide_eq_false h)⟩ : _ ∧ _)
      refine go_skip ?_
      refine hK12 _ _ ?_
      refine q_reg [] [(0, v), (1, .int .i64 n), (7, v), (8, .int .i64 (l.length : Int)), (9, .int .i64 (i + 1))] ((InR .i64 (i + 1)) ∧ (True) ∧ True) hA H ⟨⟨by omega, by omega⟩, trivial, trivial⟩ fun a w20 hA H hG => ?_
      refine ⟨(i + 1), ⟨env_sub _ hA, ⟨_, H⟩, ?_⟩, ?_⟩
      · (try dsimp only); exact ⟨by omega, fun j hj => if e : (j : Int) = i then (by have q := hhb17; rw [show j = i.toNat by omega]; rw [show (i - 1).toNat = i.toNat - 1 by omega] at q; omega) else hok j (by omega)⟩
      · (try dsimp only); omega
  · have hhb11 := of_decide_eq_false hb11
    refine go_exit 0 ?_
    refine hK3 _ _ ?_
    refine go_seq fun K21 hK21 => ?_
    refine q_reg [] [(4, .bool true)] ((True) ∧ True) hA H ⟨trivial, trivial⟩ fun a w22 hA H hG => ?_
    refine hK21 _ _ ?_
    refine go_ret_ ?_
    refine ret_one 4 (.bool true) hA ?_
    exact ans_b' ((decide_eq_true (fun j hj => hok j (by omega))).symm) H.below

set_option maxRecDepth 100000 in
set_option maxHeartbeats 1000000 in
theorem isNaN_any (x : Int) (w : World) :
  Calls Try.prog 101 [.int .i64 x].toArray w (Ans (.bool false) w) := by
  refine enter Try.f101 6 Try.func101 fun a hA => ?_
  replace hA := env_sub [(0, .int .i64 x)] hA
  have H := Fr.start (org w)
  refine go_seq fun K1 hK1 => ?_
  refine q_reg [] [(0, .int .i64 x)] ((True) ∧ True) hA H ⟨trivial, trivial⟩ fun a w2 hA H hG => ?_
  refine hK1 _ _ ?_
  refine go_seq fun K3 hK3 => ?_
  refine q_reg [] [(2, .bool (!decide (x = x)))] ((True) ∧ (True) ∧ (True) ∧ (True) ∧ True) hA H ⟨trivial, trivial, trivial, trivial, trivial⟩ fun a w4 hA H hG => ?_
  refine hK3 _ _ ?_
  refine go_ret_ ?_
  refine ret_one 2 (.bool (!decide (x = x))) hA ?_
  exact ans_b' (by simp) H.below

set_option maxRecDepth 100000 in
set_option maxHeartbeats 1000000 in
theorem cmpNaN_any (x : Int) (w : World) :
  Calls Try.prog 127 [.int .i64 x].toArray w (Ans (.bool false) w) := by
  refine enter Try.f127 6 Try.func127 fun a hA => ?_
  replace hA := env_sub [(0, .int .i64 x)] hA
  have H := Fr.start (org w)
  refine go_seq fun K1 hK1 => ?_
  refine q_reg [] [(0, .int .i64 x)] ((True) ∧ True) hA H ⟨trivial, trivial⟩ fun a w2 hA H hG => ?_
  refine hK1 _ _ ?_
  refine go_seq fun K3 hK3 => ?_
  refine q_reg [] [(2, .bool (!decide (x = x)))] ((True) ∧ (True) ∧ (True) ∧ (True) ∧ True) hA H ⟨trivial, trivial, trivial, trivial, trivial⟩ fun a w4 hA H hG => ?_
  refine hK3 _ _ ?_
  refine go_ret_ ?_
  refine ret_one 2 (.bool (!decide (x = x))) hA ?_
  exact ans_b' (by simp) H.below

set_option maxRecDepth 100000 in
set_option maxHeartbeats 1000000 in
theorem less_any (x y : Int) (w : World) :
  Calls Try.prog 100 [.int .i64 x, .int .i64 y].toArray w (Ans (.bool (decide (x < y))) w) := by
  refine enter Try.f100 17 Try.func100 fun a hA => ?_
  replace hA := env_sub [(0, .int .i64 x), (1, .int .i64 y)] hA
  have H := Fr.start (org w)
  refine go_seq fun K1 hK1 => ?_
  refine q_reg [] [(0, .int .i64 x), (1, .int .i64 y)] ((True) ∧ True) hA H ⟨trivial, trivial⟩ fun a w2 hA H hG => ?_
  refine hK1 _ _ ?_
  refine go_seq fun K3 hK3 => ?_
  refine q_reg [(6, .bool false), (9, .bool false)] [(4, .bool ((false && true) || (decide (x < y))))] ((True) ∧ (Callable Try.prog 127 ∧ CallOk Try.prog (On w2) 127 [.int .i64 x].toArray (.bool false)) ∧ (True) ∧ ((false) = true → True) ∧ ((false) = true → Callable Try.prog 127 ∧ CallOk Try.prog (On w2) 127 [.int .i64 y].toArray (.bool false)) ∧ ((false) = true → True) ∧ (True) ∧ (True) ∧ ((false && true) = false → True) ∧ ((false && true) = false → True) ∧ ((false && true) = false → True) ∧ (True) ∧ (True) ∧ True) hA H ⟨trivial, ⟨callable_of, callOk_of fun w hw => by exact cmpNaN_any x w⟩, trivial, fun _ => trivial, fun _ => ⟨callable_of, callOk_of fun w hw => by exact cmpNaN_any y w⟩, fun _ => trivial, trivial, trivial, fun _ => trivial, fun _ => trivial, fun _ => trivial, trivial, trivial, trivial⟩ fun a w4 hA H hG => ?_
  refine hK3 _ _ ?_
  refine go_ret_ ?_
  refine ret_one 4 (.bool ((false && true) || (decide (x < y)))) hA ?_
  exact ans_b' (by simp) H.below

set_option maxRecDepth 100000 in
set_option maxHeartbeats 1000000 in
theorem bs_any (v : Value) (l : List Int) (x : Int) (w : World) (hl : Rd (· < w.heap.size) w v l) (hs : l.length ≤ 1000000000000) :
  Calls Try.prog 77 [v, .int .i64 x].toArray w (Ans (.tuple #[.int .i64 (bsI l x), .bool (hasB l x)]) w) := by
  have hlen := rd_len hl
  refine enter Try.f77 54 Try.func77 fun a hA => ?_
  replace hA := env_sub [(0, v), (1, .int .i64 x)] hA
  have H := Fr.start (org w)
  refine go_seq fun K1 hK1 => ?_
  refine q_reg [] [(0, v), (1, .int .i64 x)] ((True) ∧ (True) ∧ True) hA H ⟨trivial, trivial, trivial⟩ fun a w2 hA H hG => ?_
  refine hK1 _ _ ?_
  refine go_seq fun K3 hK3 => ?_
  refine q_reg [(11, .int .i64 (l.length : Int))] [(0, v), (1, .int .i64 x), (6, .int .i64 (l.length : Int))] ((True) ∧ (LenOk v (l.length : Int)) ∧ (True) ∧ True) hA H ⟨trivial, by exact len_ok (H.arg hl), trivial, trivial⟩ fun a w4 hA H hG => ?_
  refine hK3 _ _ ?_
  refine go_seq fun K5 hK5 => ?_
  refine q_reg [] [(0, v), (1, .int .i64 x), (6, .int .i64 (l.length : Int)), (7, .int .i64 0), (8, .int .i64 (l.length : Int))] ((True) ∧ (True) ∧ (True) ∧ True) hA H ⟨trivial, trivial, trivial, trivial⟩ fun a w6 hA H hG => ?_
  refine hK5 _ _ ?_
  refine go_seq fun K7 hK7 => ?_
  refine go_block 0 ?_
  refine go_loop_ (Int × Int) (fun x_ a W => (fun (p : Int) (q : Int) => EnvOk 54 a (keepEnv [(0, v), (1, .int .i64 x), (6, .int .i64 (l.length : Int)), (7, .int .i64 p), (8, .int .i64 q)]) ∧ (∃ S, Fr (org w) W S []) ∧ 0 ≤ p ∧ p ≤ q ∧ q ≤ (l.length : Int) ∧ bsW l x p q = bsI l x) x_.1 x_.2) (fun x_ => (fun (p : Int) (q : Int) => (q - p).toNat) x_.1 x_.2) (0, (l.length : Int)) ?_ (fun x_ a w9 hI => ?_)
  · (try dsimp only); exact ⟨env_sub _ hA, ⟨_, H⟩, by omega, by omega, by omega, bsI_W l x⟩
  obtain ⟨p, q⟩ := x_
  obtain ⟨hA, ⟨S, H⟩, h1, h2, h3, hb⟩ := hI
  try dsimp only at h1 h2 h3 hb
  refine go_seq fun K10 hK10 => ?_
  refine go_seq fun K11 hK11 => ?_
  refine q_reg [] [(0, v), (1, .int .i64 x), (6, .int .i64 (l.length : Int)), (7, .int .i64 p), (8, .int .i64 q), (15, .bool (decide (p < q)))] ((True) ∧ (True) ∧ (True) ∧ True) hA H ⟨trivial, trivial, trivial, trivial⟩ fun a w12 hA H hG => ?_
  refine hK11 _ _ ?_
  refine go_cond hA (.tmp 15) (decide (p < q)) (fun hb13 => ?_) (fun hb13 => ?_)
  · have hhb13 := of_decide_eq_true hb13
    refine go_skip ?_
    refine hK10 _ _ ?_
    refine go_block 1 ?_
    refine go_seq fun K14 hK14 => ?_
    refine q_reg [(20, .int .u64 ((p + q) / 2))] [(0, v), (1, .int .i64 x), (6, .int .i64 (l.length : Int)), (7, .int .i64 p), (8, .int .i64 q), (9, .int .i64 ((p + q) / 2))] ((True) ∧ (True) ∧ (InR .i64 (p + q)) ∧ (InR .u64 (p + q)) ∧ (0 ≤ (1 : Int) ∧ (p + q).fdiv (2 ^ (min (1 : Int).toNat (IntKind.bits .u64))) = (p + q) / 2) ∧ (InR .i64 ((p + q) / 2)) ∧ (True) ∧ True) hA H ⟨trivial, trivial, ⟨by omega, by omega⟩, ⟨by omega, by omega⟩, shr_one (by decide), ⟨by omega, by omega⟩, trivial, trivial⟩ fun a w15 hA H hG => ?_
    refine hK14 _ _ ?_
    refine go_seq fun K16 hK16 => ?_
    refine q_reg [(25, .int .i64 (l.getD ((p + q) / 2).toNat 0)), (27, .bool (decide ((l.getD ((p + q) / 2).toNat 0) < x)))] [(0, v), (1, .int .i64 x), (6, .int .i64 (l.length : Int)), (7, .int .i64 p), (8, .int .i64 q), (9, .int .i64 ((p + q) / 2)), (27, .bool (decide ((l.getD ((p + q) / 2).toNat 0) < x)))] ((True) ∧ (True) ∧ ((Try.prog.info? 3).isSome = true ∧ IdxOk v ((p + q) / 2)) ∧ (CellOk (On w15) (hdB v) (hdO v + ((p + q) / 2).toNat * 1) (.int .i64 (l.getD ((p + q) / 2).toNat 0))) ∧ (True) ∧ (Callable Try.prog 100 ∧ CallOk Try.prog (On w15) 100 [.int .i64 (l.getD ((p + q) / 2).toNat 0), .int .i64 x].toArray (.bool (decide ((l.getD ((p + q) / 2).toNat 0) < x)))) ∧ True) hA H ⟨trivial, trivial, ⟨by kernel_rfl, by exact idx_ok (H.arg hl) (by omega) (by omega)⟩, by exact cell_flat (i := (p + q) / 2) (H.arg hl) (by omega) (by omega) 0 0, trivial, ⟨callable_of, callOk_of fun w hw => by exact less_any (l.getD ((p + q) / 2).toNat 0) x w⟩, trivial⟩ fun a w17 hA H hG => ?_
    refine hK16 _ _ ?_
    refine go_cond hA (.tmp 27) (decide ((l.getD ((p + q) / 2).toNat 0) < x)) (fun hb18 => ?_) (fun hb18 => ?_)
    · have hhb18 := of_decide_eq_true hb18
      refine q_reg [] [(0, v), (1, .int .i64 x), (6, .int .i64 (l.length : Int)), (7, .int .i64 (((p + q) / 2) + 1)), (8, .int .i64 q)] ((True) ∧ (InR .i64 (((p + q) / 2) + 1)) ∧ (True) ∧ True) hA H ⟨trivial, ⟨by omega, by omega⟩, trivial, trivial⟩ fun a w19 hA H hG => ?_
      refine ⟨(((p + q) / 2) + 1, q), ⟨env_sub _ hA, ⟨_, H⟩, ?_⟩, ?_⟩
      · (try dsimp only); exact ⟨by omega, by omega, by omega, by rw [bsW_T (by omega) hhb18] at hb; exact hb⟩
      · (try dsimp only); omega
    · have hhb18 := of_decide_eq_false hb18
      refine q_reg [] [(0, v), (1, .int .i64 x), (6, .int .i64 (l.length : Int)), (7, .int .i64 p), (8, .int .i64 ((p + q) / 2))] ((True) ∧ (True) ∧ True) hA H ⟨trivial, trivial, trivial⟩ fun a w20 hA H hG => ?_
      refine ⟨(p, (p + q) / 2), ⟨env_sub _ hA, ⟨_, H⟩, ?_⟩, ?_⟩
      · (try dsimp only); exact ⟨by omega, by omega, by omega, by rw [bsW_F (by omega) hhb18] at hb; exact hb⟩
      · (try dsimp only); omega
  · have hhb13 := of_decide_eq_false hb13
    refine go_exit 0 ?_
    refine hK7 _ _ ?_
    refine go_seq fun K21 hK21 => ?_
    refine q_reg [(39, .int .i64 (l.getD p.toNat 0)), (46, .int .i64 (l.getD p.toNat 0)), (47, .bool false), (50, .bool false)] [(4, .int .i64 p), (5, .bool ((decide (p < (l.length : Int))) && ((decide ((l.getD p.toNat 0) = x)) || (false && false))))] ((True) ∧ (True) ∧ (True) ∧ (True) ∧ (True) ∧ ((decide (p < (l.length : Int))) = true → True) ∧ ((decide (p < (l.length : Int))) = true → True) ∧ ((decide (p < (l.length : Int))) = true → (Try.prog.info? 3).isSome = true ∧ IdxOk v p) ∧ ((decide (p < (l.length : Int))) = true → CellOk (On w12) (hdB v) (hdO v + p.toNat * 1) (.int .i64 (l.getD p.toNat 0))) ∧ ((decide (p < (l.length : Int))) = true → True) ∧ ((decide (p < (l.length : Int))) = true → True) ∧ ((decide (p < (l.length : Int))) = true → True) ∧ ((decide (p < (l.length : Int))) = true → (decide ((l.getD p.toNat 0) = x)) = false → True) ∧ ((decide (p < (l.length : Int))) = true → (decide ((l.getD p.toNat 0) = x)) = false → True) ∧ ((decide (p < (l.length : Int))) = true → (decide ((l.getD p.toNat 0) = x)) = false → (Try.prog.info? 3).isSome = true ∧ IdxOk v p) ∧ ((decide (p < (l.length : Int))) = true → (decide ((l.getD p.toNat 0) = x)) = false → CellOk (On w12) (hdB v) (hdO v + p.toNat * 1) (.int .i64 (l.getD p.toNat 0))) ∧ ((decide (p < (l.length : Int))) = true → (decide ((l.getD p.toNat 0) = x)) = false → Callable Try.prog 101 ∧ CallOk Try.prog (On w12) 101 [.int .i64 (l.getD p.toNat 0)].toArray (.bool false)) ∧ ((decide (p < (l.length : Int))) = true → (decide ((l.getD p.toNat 0) = x)) = false → True) ∧ ((decide (p < (l.length : Int))) = true → (decide ((l.getD p.toNat 0) = x)) = false → (false) = true → True) ∧ ((decide (p < (l.length : Int))) = true → (decide ((l.getD p.toNat 0) = x)) = false → (false) = true → Callable Try.prog 101 ∧ CallOk Try.prog (On w12) 101 [.int .i64 x].toArray (.bool false)) ∧ ((decide (p < (l.length : Int))) = true → (decide ((l.getD p.toNat 0) = x)) = false → True) ∧ ((decide (p < (l.length : Int))) = true → True) ∧ (True) ∧ (True) ∧ (True) ∧ True) hA H ⟨trivial, trivial, trivial, trivial, trivial, fun _ => trivial, fun _ => trivial, fun hg0 => by replace hg0 := of_decide_eq_true hg0; exact ⟨by kernel_rfl, by exact idx_ok (H.arg hl) (by omega) (by omega)⟩, fun hg0 => by replace hg0 := of_decide_eq_true hg0; exact by exact cell_flat (i := p) (H.arg hl) (by omega) (by omega) 0 0, fun _ => trivial, fun _ => trivial, fun _ => trivial, fun _ _ => trivial, fun _ _ => trivial, fun hg0 hg1 => by replace hg0 := of_decide_eq_true hg0; replace hg1 := of_decide_eq_false hg1; exact ⟨by kernel_rfl, by exact idx_ok (H.arg hl) (by omega) (by omega)⟩, fun hg0 hg1 => by replace hg0 := of_decide_eq_true hg0; replace hg1 := of_decide_eq_false hg1; exact by exact cell_flat (i := p) (H.arg hl) (by omega) (by omega) 0 0, fun _ _ => ⟨callable_of, callOk_of fun w hw => by exact isNaN_any (l.getD p.toNat 0) w⟩, fun _ _ => trivial, fun _ _ _ => trivial, fun _ _ _ => ⟨callable_of, callOk_of fun w hw => by exact isNaN_any x w⟩, fun _ _ => trivial, fun _ => trivial, trivial, trivial, trivial, trivial⟩ fun a w22 hA H hG => ?_
    refine hK21 _ _ ?_
    refine go_ret_ ?_
    refine ret_two 4 5 (.int .i64 p) (.bool ((decide (p < (l.length : Int))) && ((decide ((l.getD p.toNat 0) = x)) || (false && false)))) hA ?_
    rw [bsW_end (by omega)] at hb
    exact ans_ib (by rw [hb]; refine ⟨rfl, ?_⟩; unfold hasB; simp) H.below

set_option maxRecDepth 100000 in
set_option maxHeartbeats 1000000 in
theorem has_any (v : Value) (l : List Int) (x : Int) (w : World) (hl : Rd (· < w.heap.size) w v l) (hs : l.length ≤ 1000000000000) :
  Calls Try.prog 39 [v, .int .i64 x].toArray w (Ans (.bool (hasB l x)) w) := by
  refine enter Try.f39 14 Try.func39 fun a hA => ?_
  replace hA := env_sub [(0, v), (1, .int .i64 x)] hA
  have H := Fr.start (org w)
  refine go_seq fun K1 hK1 => ?_
  refine q_reg [] [(0, v), (1, .int .i64 x)] ((True) ∧ True) hA H ⟨trivial, trivial⟩ fun a w2 hA H hG => ?_
  refine hK1 _ _ ?_
  refine go_seq fun K3 hK3 => ?_
  refine q_reg [(10, .tuple #[.int .i64 (bsI l x), .bool (hasB l x)])] [(6, .bool (hasB l x))] ((True) ∧ (True) ∧ (Callable Try.prog 77 ∧ CallOk Try.prog (On w2) 77 [v, .int .i64 x].toArray (.tuple #[.int .i64 (bsI l x), .bool (hasB l x)])) ∧ (True) ∧ (True) ∧ (True) ∧ (True) ∧ (True) ∧ True) hA H ⟨trivial, trivial, ⟨callable_of, callOk_of fun w hw => by exact bs_any v l x w ((H.on hw).arg hl) (by omega)⟩, trivial, trivial, trivial, trivial, trivial, trivial⟩ fun a w4 hA H hG => ?_
  refine hK3 _ _ ?_
  refine go_seq fun K5 hK5 => ?_
  refine q_reg [] [(4, .bool (hasB l x))] ((True) ∧ (True) ∧ True) hA H ⟨trivial, trivial, trivial⟩ fun a w6 hA H hG => ?_
  refine hK5 _ _ ?_
  refine go_ret_ ?_
  refine ret_one 4 (.bool (hasB l x)) hA ?_
  exact ans_b' rfl H.below

end Go.Proofs.Ytahonnlgkmimlaa

set_option linter.unusedSimpArgs false
set_option linter.unusedVariables false
namespace Go.Proofs.Ytahonnlgkmimlaa
open Go.RowKit

set_option maxRecDepth 100000 in
set_option maxHeartbeats 1000000 in
theorem ends_any (n : Int) (ve : Value) (E : List (Int × Int)) (d : Int) (w : World) (hn : -9223372036854775808 ≤ n ∧ n ≤ 9223372036854775807) (hE : Rd (· < w.heap.size) w ve E) (hd : -9223372036854775808 ≤ d ∧ d ≤ 9223372036854775807) :
  Calls Try.prog 19 [.agg #[.int .i64 n, ve], .int .i64 d].toArray w (Ans (.tuple #[.int .i64 (endsE n E d).1, .int .i64 (endsE n E d).2.1, .bool (endsE n E d).2.2]) w) := by
  refine enter Try.f19 40 Try.func19 fun a hA => ?_
  replace hA := env_sub [(0, .agg #[.int .i64 n, ve]), (1, .int .i64 d)] hA
  have H := Fr.start (org w)
  refine go_seq fun K1 hK1 => ?_
  refine region_list ?_
  refine list_at 0 ?_; refine q_box 0 2 24 (.tmp 0) (.agg #[.int .i64 n, ve]) [.int .i64 n, ve] [(1, .int .i64 d)] hA H fun b2 a w3 H hA hG hge_b2 => ?_
  clear hge_b2
  refine q_list 1 3 [] [(1, .int .i64 d), (2, .pointer (some ⟨b2, 0, none⟩))] ((True) ∧ (True) ∧ (True) ∧ True) hA H ⟨trivial, trivial, trivial, trivial⟩ fun a w4 hA H hG => ?_
  refine list_end ?_
  refine hK1 _ _ ?_
  refine go_seq fun K5 hK5 => ?_
  refine go_seq fun K6 hK6 => ?_
  refine q_reg [(8, .agg #[.int .i64 n, ve]), (9, .int .i64 (rightE n E)), (19, ve), (20, .int .i64 (E.length : Int))] [(1, .int .i64 d), (2, .pointer (some ⟨b2, 0, none⟩)), (22, .bool (((!decide (rightE n E = 0)) || (decide (d < 0))) || (decide ((E.length : Int) ≤ d / 2))))] (((Try.prog.info? 24).isSome = true ∧ RowOk (On w4) b2 (0) (Try.prog.cellsOf 24) #[.int .i64 n, ve]) ∧ (Callable Try.prog 20 ∧ CallOk Try.prog (On w4) 20 [.agg #[.int .i64 n, ve]].toArray (.int .i64 (rightE n E))) ∧ (True) ∧ (True) ∧ ((!decide (rightE n E = 0)) = false → True) ∧ ((!decide (rightE n E = 0)) = false → True) ∧ (True) ∧ (True) ∧ (((!decide (rightE n E = 0)) || (decide (d < 0))) = false → True) ∧ (((!decide (rightE n E = 0)) || (decide (d < 0))) = false → 0 ≤ d ∧ 0 < (2 : Int) ∧ InR .i64 d) ∧ (((!decide (rightE n E = 0)) || (decide (d < 0))) = false → 0 < Try.prog.cellsOf 22) ∧ (((!decide (rightE n E = 0)) || (decide (d < 0))) = false → CellOk (On w4) b2 (0 + 1) (ve)) ∧ (((!decide (rightE n E = 0)) || (decide (d < 0))) = false → LenOk ve (E.length : Int)) ∧ (((!decide (rightE n E = 0)) || (decide (d < 0))) = false → True) ∧ (True) ∧ True) hA H ⟨⟨by kernel_rfl, by exact box_row H 0 rfl 0 2⟩, ⟨callable_of, callOk_of fun w hw => by exact right_any n ve E w (by omega) ((H.on hw).arg hE)⟩, trivial, trivial, fun _ => trivial, fun _ => trivial, trivial, trivial, fun _ => trivial, fun hg0 => by replace hg0 := (⟨of_decide_eq_true (nF ((oF hg0).1)), of_decide_eq_false ((oF hg0).2)⟩ : _ ∧ _); exact ⟨by omega, by omega, by omega, by omega⟩, fun _ => by decide +kernel, fun _ => by exact box_cell H 0 rfl 1, fun _ => by exact len_ok (H.arg hE), fun _ => trivial, trivial, trivial⟩ fun a w7 hA H hG => ?_
  refine hK6 _ _ ?_
  refine go_cond hA (.tmp 22) (((!decide (rightE n E = 0)) || (decide (d < 0))) || (decide ((E.length : Int) ≤ d / 2))) (fun hb8 => ?_) (fun hb8 => ?_)
  · have hhb8 := (oT hb8).imp (fun h => (oT h).imp (fun h => of_decide_eq_false (nT h)) (fun h => of_decide_eq_true h)) (fun h => of_decide_eq_true h)
    refine go_seq fun K9 hK9 => ?_
    refine q_reg [] [(4, .int .i64 0), (5, .int .i64 0), (6, .bool false)] ((True) ∧ (True) ∧ (True) ∧ True) hA H ⟨trivial, trivial, trivial, trivial⟩ fun a w10 hA H hG => ?_
    refine hK9 _ _ ?_
    refine go_ret_ ?_
    refine ret_three 4 5 6 (.int .i64 0) (.int .i64 0) (.bool false) hA ?_
    exact ans_iib (by unfold endsE; first | rw [if_pos (by omega)] | (rw [if_neg (by omega), if_pos (by omega)]) | (rw [if_neg (by omega), if_neg (by omega)])) H.below
  · have hhb8 := (⟨(⟨of_decide_eq_true (nF ((oF ((oF hb8).1)).1)), of_decide_eq_false ((oF ((oF hb8).1)).2)⟩ : _ ∧ _), of_decide_eq_false ((oF hb8).2)⟩ : _ ∧ _)
    refine go_skip ?_
    refine hK5 _ _ ?_
    refine go_seq fun K11 hK11 => ?_
    refine region_list ?_
    refine q_list 0 6 [(24, ve), (28, .agg #[.int .i64 ((E.getD (d / 2).toNat (0, 0)).1), .int .i64 ((E.getD (d / 2).toNat (0, 0)).2)])] [(1, .int .i64 d), (28, .agg #[.int .i64 ((E.getD (d / 2).toNat (0, 0)).1), .int .i64 ((E.getD (d / 2).toNat (0, 0)).2)])] ((0 < Try.prog.cellsOf 22) ∧ (CellOk (On w7) b2 (0 + 1) (ve)) ∧ (True) ∧ (0 ≤ d ∧ 0 < (2 : Int) ∧ InR .i64 d) ∧ ((Try.prog.info? 99).isSome = true ∧ IdxOk ve (d / 2)) ∧ ((Try.prog.info? 99).isSome = true ∧ RowOk (On w7) (hdB ve) (hdO ve + (d / 2).toNat * 2) (Try.prog.cellsOf 99) #[.int .i64 ((E.getD (d / 2).toNat (0, 0)).1), .int .i64 ((E.getD (d / 2).toNat (0, 0)).2)]) ∧ True) hA H ⟨by decide +kernel, by exact box_cell H 0 rfl 1, trivial, ⟨by omega, by omega, by omega, by omega⟩, ⟨by kernel_rfl, by exact idx_ok (H.arg hE) (by omega) (by omega)⟩, ⟨by kernel_rfl, by exact row_flat (i := d / 2) (H.arg hE) (by omega) (by omega) (0, 0)⟩, trivial⟩ fun a w12 hA H hG => ?_
    refine list_at 6 ?_; refine q_alloc 6 7 99 [.int .i64 0, .int .i64 0] [(1, .int .i64 d), (28, .agg #[.int .i64 ((E.getD (d / 2).toNat (0, 0)).1), .int .i64 ((E.getD (d / 2).toNat (0, 0)).2)])] hA H fun b13 a w14 H hA hG hge_b13 => ?_
    clear hge_b13
    refine list_at 7 ?_; refine q_store 7 99 (.tmp 7) (.tmp 28) 0 b13 (0) 99 [.int .i64 0, .int .i64 0] [.int .i64 ((E.getD (d / 2).toNat (0, 0)).1), .int .i64 ((E.getD (d / 2).toNat (0, 0)).2)] [.int .i64 ((E.getD (d / 2).toNat (0, 0)).1), .int .i64 ((E.getD (d / 2).toNat (0, 0)).2)] (.agg #[.int .i64 ((E.getD (d / 2).toNat (0, 0)).1), .int .i64 ((E.getD (d / 2).toNat (0, 0)).2)]) [(1, .int .i64 d), (7, .pointer (some ⟨b13, 0, none⟩))] hA H rfl rfl (Nat.le_of_ble_eq_true (by kernel_rfl)) rfl (fun v hv => by simp only [List.mem_cons, List.not_mem_nil, or_false] at hv; rcases hv with rfl | rfl; exact rfl; exact rfl) fun a w15 H hA hG => ?_
    replace H : Fr _ _ _ [.box b13 99 [.int .i64 ((E.getD (d / 2).toNat (0, 0)).1), .int .i64 ((E.getD (d / 2).toNat (0, 0)).2)], .box b2 24 [.int .i64 n, ve]] := H
    refine list_end ?_
    refine hK11 _ _ ?_
    refine go_seq fun K16 hK16 => ?_
    refine go_seq fun K17 hK17 => ?_
    refine q_reg [] [(7, .pointer (some ⟨b13, 0, none⟩)), (31, .bool (decide (d % 2 = 0)))] ((True) ∧ (0 ≤ d ∧ 0 < (2 : Int)) ∧ (True) ∧ True) hA H ⟨trivial, ⟨by omega, by omega⟩, trivial, trivial⟩ fun a w18 hA H hG => ?_
    refine hK17 _ _ ?_
    refine go_cond hA (.tmp 31) (decide (d % 2 = 0)) (fun hb19 => ?_) (fun hb19 => ?_)
    · have hhb19 := of_decide_eq_true hb19
      refine go_seq fun K20 hK20 => ?_
      refine q_draw [(33, .int .i64 ((E.getD (d / 2).toNat (0, 0)).1)), (35, .int .i64 ((E.getD (d / 2).toNat (0, 0)).2))] [(4, .int .i64 ((E.getD (d / 2).toNat (0, 0)).1)), (5, .int .i64 ((E.getD (d / 2).toNat (0, 0)).2)), (6, .bool true)] ((0 < Try.prog.cellsOf 3) ∧ (CellOk (On w18) b13 (0 + 0) (.int .i64 ((E.getD (d / 2).toNat (0, 0)).1))) ∧ (0 < Try.prog.cellsOf 3) ∧ (CellOk (On w18) b13 (0 + 1) (.int .i64 ((E.getD (d / 2).toNat (0, 0)).2))) ∧ (True) ∧ (True) ∧ (True) ∧ True) hA H ⟨by decide +kernel, by exact box_cell H 0 rfl 0, by decide +kernel, by exact box_cell H 0 rfl 1, trivial, trivial, trivial, trivial⟩ fun a w21 hA H hG => ?_
      refine hK20 _ _ ?_
      refine go_ret_ ?_
      refine ret_three 4 5 6 (.int .i64 ((E.getD (d / 2).toNat (0, 0)).1)) (.int .i64 ((E.getD (d / 2).toNat (0, 0)).2)) (.bool true) hA ?_
      exact ans_iib (by unfold endsE; first | rw [if_pos (by omega)] | (rw [if_neg (by omega), if_pos (by omega)]) | (rw [if_neg (by omega), if_neg (by omega)])) H.below
    · have hhb19 := of_decide_eq_false hb19
      refine go_skip ?_
      refine hK16 _ _ ?_
      refine go_seq fun K22 hK22 => ?_
      refine q_draw [(37, .int .i64 ((E.getD (d / 2).toNat (0, 0)).2)), (39, .int .i64 ((E.getD (d / 2).toNat (0, 0)).1))] [(4, .int .i64 ((E.getD (d / 2).toNat (0, 0)).2)), (5, .int .i64 ((E.getD (d / 2).toNat (0, 0)).1)), (6, .bool true)] ((0 < Try.prog.cellsOf 3) ∧ (CellOk (On w18) b13 (0 + 1) (.int .i64 ((E.getD (d / 2).toNat (0, 0)).2))) ∧ (0 < Try.prog.cellsOf 3) ∧ (CellOk (On w18) b13 (0 + 0) (.int .i64 ((E.getD (d / 2).toNat (0, 0)).1))) ∧ (True) ∧ (True) ∧ (True) ∧ True) hA H ⟨by decide +kernel, by exact box_cell H 0 rfl 1, by decide +kernel, by exact box_cell H 0 rfl 0, trivial, trivial, trivial, trivial⟩ fun a w23 hA H hG => ?_
      refine hK22 _ _ ?_
      refine go_ret_ ?_
      refine ret_three 4 5 6 (.int .i64 ((E.getD (d / 2).toNat (0, 0)).2)) (.int .i64 ((E.getD (d / 2).toNat (0, 0)).1)) (.bool true) hA ?_
      exact ans_iib (by unfold endsE; first | rw [if_pos (by omega)] | (rw [if_neg (by omega), if_pos (by omega)]) | (rw [if_neg (by omega), if_neg (by omega)])) H.below

set_option maxRecDepth 100000 in
set_option maxHeartbeats 1000000 in
theorem rightPart_any (n : Int) (ve : Value) (E : List (Int × Int)) (vv vl : Value) (V L : List Int) (w : World) (hn : -9223372036854775808 ≤ n ∧ n ≤ 9223372036854775807) (hE : Rd (· < w.heap.size) w ve E) (hV : Rd (· < w.heap.size) w vv V) (hL : Rd (· < w.heap.size) w vl L) :
  Calls Try.prog 31 [.agg #[.int .i64 n, ve], .agg #[vv, vl]].toArray w (Ans (.int .i64 (partE n E V L)) w) := by
  refine enter Try.f31 58 Try.func31 fun a hA => ?_
  replace hA := env_sub [(0, .agg #[.int .i64 n, ve]), (1, .agg #[vv, vl])] hA
  have H := Fr.start (org w)
  refine go_seq fun K1 hK1 => ?_
  refine region_list ?_
  refine list_at 0 ?_; refine q_box 0 2 24 (.tmp 0) (.agg #[.int .i64 n, ve]) [.int .i64 n, ve] [(1, .agg #[vv, vl])] hA H fun b2 a w3 H hA hG hge_b2 => ?_
  clear hge_b2
  refine list_at 1 ?_; refine q_box 1 3 29 (.tmp 1) (.agg #[vv, vl]) [vv, vl] [(2, .pointer (some ⟨b2, 0, none⟩))] hA H fun b4 a w5 H hA hG hge_b4 => ?_
  clear hge_b4
  refine q_list 2 1 [] [(2, .pointer (some ⟨b2, 0, none⟩)), (3, .pointer (some ⟨b4, 0, none⟩))] ((True) ∧ True) hA H ⟨trivial, trivial⟩ fun a w6 hA H hG => ?_
  refine list_end ?_
  refine hK1 _ _ ?_
  refine go_seq fun K7 hK7 => ?_
  refine go_seq fun K8 hK8 => ?_
  refine q_reg [(8, .agg #[.int .i64 n, ve]), (9, .int .i64 (rightE n E))] [(2, .pointer (some ⟨b2, 0, none⟩)), (3, .pointer (some ⟨b4, 0, none⟩)), (5, .int .i64 (rightE n E))] (((Try.prog.info? 24).isSome = true ∧ RowOk (On w6) b2 (0) (Try.prog.cellsOf 24) #[.int .i64 n, ve]) ∧ (Callable Try.prog 20 ∧ CallOk Try.prog (On w6) 20 [.agg #[.int .i64 n, ve]].toArray (.int .i64 (rightE n E))) ∧ (True) ∧ True) hA H ⟨⟨by kernel_rfl, by exact box_row H 1 rfl 0 2⟩, ⟨callable_of, callOk_of fun w hw => by exact right_any n ve E w (by omega) ((H.on hw).arg hE)⟩, trivial, trivial⟩ fun a w9 hA H hG => ?_
  refine hK8 _ _ ?_
  refine go_seq fun K10 hK10 => ?_
  refine q_reg [] [(2, .pointer (some ⟨b2, 0, none⟩)), (3, .pointer (some ⟨b4, 0, none⟩)), (5, .int .i64 (rightE n E)), (11, .bool (!decide (rightE n E = 0)))] ((True) ∧ (True) ∧ True) hA H ⟨trivial, trivial, trivial⟩ fun a w11 hA H hG => ?_
  refine hK10 _ _ ?_
  refine go_cond hA (.tmp 11) (!decide (rightE n E = 0)) (fun hb12 => ?_) (fun hb12 => ?_)
  · have hhb12 := of_decide_eq_false (nT hb12)
    refine go_seq fun K13 hK13 => ?_
    refine q_reg [] [(4, .int .i64 (rightE n E))] ((True) ∧ (True) ∧ True) hA H ⟨trivial, trivial, trivial⟩ fun a w14 hA H hG => ?_
    refine hK13 _ _ ?_
    refine go_ret_ ?_
    refine ret_one 4 (.int .i64 (rightE n E)) hA ?_
    exact ans_i' (by unfold partE; rw [if_pos hhb12]) H.below
  · have hhb12 := of_decide_eq_true (nF hb12)
    refine go_skip ?_
    refine hK7 _ _ ?_
    refine go_seq fun K15 hK15 => ?_
    refine go_seq fun K16 hK16 => ?_
    refine q_reg [(14, vv), (16, .int .i64 n), (17, .bool (decide (risesP V n))), (21, vl), (23, ve), (24, .int .i64 (E.length : Int)), (25, .bool (decide (risesP L (E.length : Int))))] [(2, .pointer (some ⟨b2, 0, none⟩)), (3, .pointer (some ⟨b4, 0, none⟩)), (27, .bool ((!(decide (risesP V n))) || (!(decide (risesP L (E.length : Int))))))] ((0 < Try.prog.cellsOf 27) ∧ (CellOk (On w11) b4 (0 + 0) (vv)) ∧ (0 < Try.prog.cellsOf 3) ∧ (CellOk (On w11) b2 (0 + 0) (.int .i64 n)) ∧ (Callable Try.prog 73 ∧ CallOk Try.prog (On w11) 73 [vv, .int .i64 n].toArray (.bool (decide (risesP V n)))) ∧ (True) ∧ (True) ∧ ((!(decide (risesP V n))) = false → 0 < Try.prog.cellsOf 27) ∧ ((!(decide (risesP V n))) = false → CellOk (On w11) b4 (0 + 1) (vl)) ∧ ((!(decide (risesP V n))) = false → 0 < Try.prog.cellsOf 22) ∧ ((!(decide (risesP V n))) = false → CellOk (On w11) b2 (0 + 1) (ve)) ∧ ((!(decide (risesP V n))) = false → LenOk ve (E.length : Int)) ∧ ((!(decide (risesP V n))) = false → Callable Try.prog 73 ∧ CallOk Try.prog (On w11) 73 [vl, .int .i64 (E.length : Int)].toArray (.bool (decide (risesP L (E.length : Int))))) ∧ ((!(decide (risesP V n))) = false → True) ∧ (True) ∧ True) hA H ⟨by decide +kernel, by exact box_cell H 0 rfl 0, by decide +kernel, by exact box_cell H 1 rfl 0, ⟨callable_of, callOk_of fun w hw => by exact rising_any vv V n w ((H.on hw).arg hV)⟩, trivial, trivial, fun _ => by decide +kernel, fun _ => by exact box_cell H 0 rfl 1, fun _ => by decide +kernel, fun _ => by exact box_cell H 1 rfl 1, fun _ => by exact len_ok (H.arg hE), fun _ => ⟨callable_of, callOk_of fun w hw => by exact rising_any vl L (E.length : Int) w ((H.on hw).arg hL)⟩, fun _ => trivial, trivial, trivial⟩ fun a w17 hA H hG => ?_
    refine hK16 _ _ ?_
    refine go_cond hA (.tmp 27) ((!(decide (risesP V n))) || (!(decide (risesP L (E.length : Int))))) (fun hb18 => ?_) (fun hb18 => ?_)
    · have hhb18 := (oT hb18).imp (fun h => of_decide_eq_false (nT h)) (fun h => of_decide_eq_false (nT h))
      refine go_seq fun K19 hK19 => ?_
      refine q_reg [] [(4, .int .i64 4)] ((True) ∧ True) hA H ⟨trivial, trivial⟩ fun a w20 hA H hG => ?_
      refine hK19 _ _ ?_
      refine go_ret_ ?_
      refine ret_one 4 (.int .i64 4) hA ?_
      exact ans_i' (by unfold partE; rw [if_neg (by omega), if_pos hhb18]) H.below
    · have hhb18 := (⟨of_decide_eq_true (nF ((oF hb18).1)), of_decide_eq_true (nF ((oF hb18).2))⟩ : _ ∧ _)
      refine go_skip ?_
      refine hK15 _ _ ?_
      refine go_seq fun K21 hK21 => ?_
      refine go_seq fun K22 hK22 => ?_
      have hr0 := rightE_0 (n := n) (E := E) (by omega)
      obtain ⟨hr1, hr2⟩ := hhb18
      have hv9 := rises_len hr1 (by omega)
      have hl9 := rises_len hr2 (by omega)
      refine q_reg [(29, vl), (30, .int .i64 (L.length : Int))] [(2, .pointer (some ⟨b2, 0, none⟩)), (3, .pointer (some ⟨b4, 0, none⟩)), (29, vl), (30, .int .i64 (L.length : Int)), (31, .int .i64 0)] ((0 < Try.prog.cellsOf 27) ∧ (CellOk (On w17) b4 (0 + 1) (vl)) ∧ (LenOk vl (L.length : Int)) ∧ (True) ∧ True) hA H ⟨by decide +kernel, by exact box_cell H 0 rfl 1, by exact len_ok (H.arg hL), trivial, trivial⟩ fun a w23 hA H hG => ?_
      refine hK22 _ _ ?_
      refine go_block 0 ?_
      refine go_loop_ (Int) (fun x_ a W => (fun (i : Int) => EnvOk 58 a (keepEnv [(2, .pointer (some ⟨b2, 0, none⟩)), (3, .pointer (some ⟨b4, 0, none⟩)), (29, vl), (30, .int .i64 (L.length : Int)), (31, .int .i64 i)]) ∧ (∃ S, Fr (org w) W S [.box b4 29 [vv, vl], .box b2 24 [.int .i64 n, ve]]) ∧ 0 ≤ i ∧ ∀ j : Nat, (j : Int) < i → hasB V (E.getD (L.getD j 0).toNat (0, 0)).1 = true ∧ hasB V (E.getD (L.getD j 0).toNat (0, 0)).2 = true) x_) (fun x_ => (fun (i : Int) => ((L.length : Int) - i).toNat) x_) (0) ?_ (fun i a w25 hI => ?_)
      · (try dsimp only); exact ⟨env_sub _ hA, ⟨_, H⟩, by omega, fun j hj => by omega⟩
      obtain ⟨hA, ⟨S, H⟩, h0, hok⟩ := hI
      try dsimp only at h0 hok
      refine go_seq fun K26 hK26 => ?_
      refine q_reg [] [(2, .pointer (some ⟨b2, 0, none⟩)), (3, .pointer (some ⟨b4, 0, none⟩)), (29, vl), (30, .int .i64 (L.length : Int)), (31, .int .i64 i), (32, .bool (decide (i < (L.length : Int))))] ((True) ∧ True) hA H ⟨trivial, trivial⟩ fun a w27 hA H hG => ?_
      refine hK26 _ _ ?_
      refine go_seq fun K28 hK28 => ?_
      refine go_cond hA (.tmp 32) (decide (i < (L.length : Int))) (fun hb29 => ?_) (fun hb29 => ?_)
      · have hhb29 := of_decide_eq_true hb29
        refine go_skip ?_
        refine hK28 _ _ ?_
        refine go_seq fun K30 hK30 => ?_
        refine go_block 1 ?_
        refine go_seq fun K31 hK31 => ?_
        refine q_reg [(34, .int .i64 (L.getD i.toNat 0))] [(2, .pointer (some ⟨b2, 0, none⟩)), (3, .pointer (some ⟨b4, 0, none⟩)), (7, .int .i64 (L.getD i.toNat 0)), (29, vl), (30, .int .i64 (L.length : Int)), (31, .int .i64 i)] (((Try.prog.info? 3).isSome = true ∧ IdxOk vl i) ∧ (CellOk (On w27) (hdB vl) (hdO vl + i.toNat * 1) (.int .i64 (L.getD i.toNat 0))) ∧ (True) ∧ True) hA H ⟨⟨by kernel_rfl, by exact idx_ok (H.arg hL) (by omega) (by omega)⟩, by exact cell_flat (i := i) (H.arg hL) (by omega) (by omega) 0 0, trivial, trivial⟩ fun a w32 hA H hG => ?_
        refine hK31 _ _ ?_
        refine go_seq fun K33 hK33 => ?_
        have hx := hr2 i.toNat (by omega)
        refine q_draw [(36, vv), (38, ve), (42, .int .i64 ((E.getD (L.getD i.toNat 0).toNat (0, 0)).1)), (43, .bool (hasB V ((E.getD (L.getD i.toNat 0).toNat (0, 0)).1))), (47, vv), (49, ve), (53, .int .i64 ((E.getD (L.getD i.toNat 0).toNat (0, 0)).2)), (54, .bool (hasB V ((E.getD (L.getD i.toNat 0).toNat (0, 0)).2)))] [(2, .pointer (some ⟨b2, 0, none⟩)), (3, .pointer (some ⟨b4, 0, none⟩)), (29, vl), (30, .int .i64 (L.length : Int)), (31, .int .i64 i), (56, .bool ((!(hasB V ((E.getD (L.getD i.toNat 0).toNat (0, 0)).1))) || (!(hasB V ((E.getD (L.getD i.toNat 0).toNat (0, 0)).2)))))] ((0 < Try.prog.cellsOf 27) ∧ (CellOk (On w32) b4 (0 + 0) (vv)) ∧ (0 < Try.prog.cellsOf 22) ∧ (CellOk (On w32) b2 (0 + 1) (ve)) ∧ (True) ∧ ((Try.prog.info? 99).isSome = true ∧ IdxOk ve (L.getD i.toNat 0)) ∧ (0 < Try.prog.cellsOf 3) ∧ (CellOk (On w32) (hdB ve) (hdO ve + (L.getD i.toNat 0).toNat * 2 + 0) (.int .i64 ((E.getD (L.getD i.toNat 0).toNat (0, 0)).1))) ∧ (Callable Try.prog 39 ∧ CallOk Try.prog (On w32) 39 [vv, .int .i64 ((E.getD (L.getD i.toNat 0).toNat (0, 0)).1)].toArray (.bool (hasB V ((E.getD (L.getD i.toNat 0).toNat (0, 0)).1)))) ∧ (True) ∧ (True) ∧ ((!(hasB V ((E.getD (L.getD i.toNat 0).toNat (0, 0)).1))) = false → 0 < Try.prog.cellsOf 27) ∧ ((!(hasB V ((E.getD (L.getD i.toNat 0).toNat (0, 0)).1))) = false → CellOk (On w32) b4 (0 + 0) (vv)) ∧ ((!(hasB V ((E.getD (L.getD i.toNat 0).toNat (0, 0)).1))) = false → 0 < Try.prog.cellsOf 22) ∧ ((!(hasB V ((E.getD (L.getD i.toNat 0).toNat (0, 0)).1))) = false → CellOk (On w32) b2 (0 + 1) (ve)) ∧ ((!(hasB V ((E.getD (L.getD i.toNat 0).toNat (0, 0)).1))) = false → True) ∧ ((!(hasB V ((E.getD (L.getD i.toNat 0).toNat (0, 0)).1))) = false → (Try.prog.info? 99).isSome = true ∧ IdxOk ve (L.getD i.toNat 0)) ∧ ((!(hasB V ((E.getD (L.getD i.toNat 0).toNat (0, 0)).1))) = false → 0 < Try.prog.cellsOf 3) ∧ ((!(hasB V ((E.getD (L.getD i.toNat 0).toNat (0, 0)).1))) = false → CellOk (On w32) (hdB ve) (hdO ve + (L.getD i.toNat 0).toNat * 2 + 1) (.int .i64 ((E.getD (L.getD i.toNat 0).toNat (0, 0)).2))) ∧ ((!(hasB V ((E.getD (L.getD i.toNat 0).toNat (0, 0)).1))) = false → Callable Try.prog 39 ∧ CallOk Try.prog (On w32) 39 [vv, .int .i64 ((E.getD (L.getD i.toNat 0).toNat (0, 0)).2)].toArray (.bool (hasB V ((E.getD (L.getD i.toNat 0).toNat (0, 0)).2)))) ∧ ((!(hasB V ((E.getD (L.getD i.toNat 0).toNat (0, 0)).1))) = false → True) ∧ (True) ∧ True) hA H ⟨by decide +kernel, by exact box_cell H 0 rfl 0, by decide +kernel, by exact box_cell H 1 rfl 1, trivial, ⟨by kernel_rfl, by exact idx_ok (H.arg hE) (by omega) (by omega)⟩, by decide +kernel, by exact cell_flat (i := (L.getD i.toNat 0)) (H.arg hE) (by omega) (by omega) (0, 0) 0, ⟨callable_of, callOk_of fun w hw => by exact has_any vv V ((E.getD (L.getD i.toNat 0).toNat (0, 0)).1) w ((H.on hw).arg hV) (by omega)⟩, trivial, trivial, fun _ => by decide +kernel, fun _ => by exact box_cell H 0 rfl 0, fun _ => by decide +kernel, fun _ => by exact box_cell H 1 rfl 1, fun _ => trivial, fun hg0 => by replace hg0 := (nF hg0); exact ⟨by kernel_rfl, by exact idx_ok (H.arg hE) (by omega) (by omega)⟩, fun _ => by decide +kernel, fun hg0 => by replace hg0 := (nF hg0); exact by exact cell_flat (i := (L.getD i.toNat 0)) (H.arg hE) (by omega) (by omega) (0, 0) 1, fun hg0 => by replace hg0 := (nF hg0); exact ⟨callable_of, callOk_of fun w hw => by exact has_any vv V ((E.getD (L.getD i.toNat 0).toNat (0, 0)).2) w ((H.on hw).arg hV) (by omega)⟩, fun _ => trivial, trivial, trivial⟩ fun a w34 hA H hG => ?_
        refine hK33 _ _ ?_
        refine go_cond hA (.tmp 56) ((!(hasB V ((E.getD (L.getD i.toNat 0).toNat (0, 0)).1))) || (!(hasB V ((E.getD (L.getD i.toNat 0).toNat (0, 0)).2)))) (fun hb35 => ?_) (fun hb35 => ?_)
        · have hhb35 := (oT hb35).imp (fun h => (nT h)) (fun h => (nT h))
          refine go_seq fun K36 hK36 => ?_
          refine q_reg [] [(4, .int .i64 4)] ((True) ∧ True) hA H ⟨trivial, trivial⟩ fun a w37 hA H hG => ?_
          refine hK36 _ _ ?_
          refine go_ret_ ?_
          refine ret_one 4 (.int .i64 4) hA ?_
          exact ans_i' (by unfold partE; rw [if_neg (by omega), if_neg (by rintro (q | q); exact q hr1; exact q hr2), if_neg (fun q : okPart E V L => by have z := q i.toNat (by omega); rcases hhb35 with y | y; rw [z.1] at y; cases y; rw [z.2] at y; cases y)]) H.below
        · have hhb35 := (⟨(nF ((oF hb35).1)), (nF ((oF hb35).2))⟩ : _ ∧ _)
          refine go_skip ?_
          refine hK30 _ _ ?_
          refine q_reg [] [(2, .pointer (some ⟨b2, 0, none⟩)), (3, .pointer (some ⟨b4, 0, none⟩)), (29, vl), (30, .int .i64 (L.length : Int)), (31, .int .i64 (i + 1))] ((InR .i64 (i + 1)) ∧ (True) ∧ True) hA H ⟨⟨by omega, by omega⟩, trivial, trivial⟩ fun a w38 hA H hG => ?_
          refine ⟨(i + 1), ⟨env_sub _ hA, ⟨_, H⟩, ?_⟩, ?_⟩
          · (try dsimp only); exact ⟨by omega, fun j hj => if e : (j : Int) = i then (by rw [show j = i.toNat by omega]; exact hhb35) else hok j (by omega)⟩
          · (try dsimp only); omega
      · have hhb29 := of_decide_eq_false hb29
        refine go_exit 0 ?_
        refine hK21 _ _ ?_
        refine go_seq fun K39 hK39 => ?_
        refine q_reg [] [(4, .int .i64 0)] ((True) ∧ True) hA H ⟨trivial, trivial⟩ fun a w40 hA H hG => ?_
        refine hK39 _ _ ?_
        refine go_ret_ ?_
        refine ret_one 4 (.int .i64 0) hA ?_
        exact ans_i' (by unfold partE; rw [if_neg (by omega), if_neg (by rintro (q | q); exact q hr1; exact q hr2), if_pos (show okPart E V L from fun j hj => hok j (by omega))]) H.below

end Go.Proofs.Ytahonnlgkmimlaa
