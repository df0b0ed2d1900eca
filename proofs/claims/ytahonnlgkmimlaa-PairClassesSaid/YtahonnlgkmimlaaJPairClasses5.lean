/-
  Texts joined by program: WalkP3, WalkB1, WalkB2, WalkB3.
-/
import Derived.Test.YtahonnlgkmimlaaProg
import Derived.Test.YtahonnlgkmimlaaJPairClasses4
set_option linter.unusedSimpArgs false
set_option linter.unusedVariables false
namespace Go.Proofs.Ytahonnlgkmimlaa
open Go.RowKit

set_option maxRecDepth 100000 in
set_option maxHeartbeats 8000000 in
theorem pwhole_any (vl : Value) (l : List (Int × Int × Int)) (o : Orig) (hL : Rd (· < o.w.heap.size) o.w vl l) (hs : l.length ≤ 100000) (hwf : WfL l) :
  Calls Try.prog 87 [vl].toArray o.w (Giv o (fun S v w' => ∃ g p, v = .tuple #[g, p, .bool (wholeR l).2] ∧ Rd S w' g (wholeR l).1.1 ∧ Rd S w' p (wholeR l).1.2)) := by
  refine enter Try.f87 96 Try.func87 fun a hA => ?_
  replace hA := env_sub [(0, vl)] hA
  have H := Fr.start o
  refine go_seq fun K1 hK1 => ?_
  refine region_list ?_
  refine list_at 0 ?_; refine q_alloc 0 2 24 [.int .i64 0, (.slice none 0 0)] [(0, vl)] hA H fun b2 a w3 H hA hG hge_b2 => ?_
  clear hge_b2
  refine list_at 1 ?_; refine q_alloc 1 3 29 [(.slice none 0 0), (.slice none 0 0)] [(0, vl), (2, .pointer (some ⟨b2, 0, none⟩))] hA H fun b4 a w5 H hA hG hge_b4 => ?_
  clear hge_b4
  refine q_list 2 1 [] [(0, vl), (2, .pointer (some ⟨b2, 0, none⟩)), (3, .pointer (some ⟨b4, 0, none⟩))] ((True) ∧ True) hA H ⟨trivial, trivial⟩ fun a w6 hA H hG => ?_
  refine list_end ?_
  refine hK1 _ _ ?_
  refine go_seq fun K7 hK7 => ?_
  refine region_list ?_
  refine list_at 0 ?_; refine q_alloc 0 5 24 [.int .i64 0, (.slice none 0 0)] [(0, vl), (2, .pointer (some ⟨b2, 0, none⟩)), (3, .pointer (some ⟨b4, 0, none⟩))] hA H fun b8 a w9 H hA hG hge_b8 => ?_
  clear hge_b8
  refine list_end ?_
  refine hK7 _ _ ?_
  refine go_seq fun K10 hK10 => ?_
  refine region_list ?_
  refine list_at 0 ?_; refine q_makeMap Int 3 0 14 130 [(0, vl), (2, .pointer (some ⟨b2, 0, none⟩)), (3, .pointer (some ⟨b4, 0, none⟩)), (5, .pointer (some ⟨b8, 0, none⟩))] hA H fun b11 a w12 H hA hG hge_b11 => ?_
  clear hge_b11
  replace H : Fr _ _ _ [mapN Try.prog 3 b11 [], .box b8 24 [.int .i64 0, (.slice none 0 0)], .box b4 29 [(.slice none 0 0), (.slice none 0 0)], .box b2 24 [.int .i64 0, (.slice none 0 0)]] := H
  refine q_list 1 1 [] [(0, vl), (2, .pointer (some ⟨b2, 0, none⟩)), (3, .pointer (some ⟨b4, 0, none⟩)), (5, .pointer (some ⟨b8, 0, none⟩)), (6, (.map (some b11)))] ((True) ∧ True) hA H ⟨trivial, trivial⟩ fun a w13 hA H hG => ?_
  refine list_end ?_
  refine hK10 _ _ ?_
  refine go_seq fun K14 hK14 => ?_
  refine q_reg [] [(0, vl), (2, .pointer (some ⟨b2, 0, none⟩)), (3, .pointer (some ⟨b4, 0, none⟩)), (5, .pointer (some ⟨b8, 0, none⟩)), (6, (.map (some b11))), (7, (.slice none 0 0))] ((True) ∧ True) hA H ⟨trivial, trivial⟩ fun a w15 hA H hG => ?_
  refine hK14 _ _ ?_
  refine go_seq fun K16 hK16 => ?_
  refine go_seq fun K17 hK17 => ?_
  refine q_reg [(16, .int .i64 (l.length : Int))] [(2, .pointer (some ⟨b2, 0, none⟩)), (3, .pointer (some ⟨b4, 0, none⟩)), (5, .pointer (some ⟨b8, 0, none⟩)), (6, (.map (some b11))), (7, (.slice none 0 0)), (15, vl), (16, .int .i64 (l.length : Int)), (17, .int .i64 0)] ((True) ∧ (LenOk vl (l.length : Int)) ∧ (True) ∧ True) hA H ⟨trivial, by exact len_ok (H.arg hL), trivial, trivial⟩ fun a w18 hA H hG => ?_
  refine hK17 _ _ ?_
  refine go_block 0 ?_
  replace H := H.newRow (α := Int) 3
  replace H := H.newRow (α := Int × Int) 99
  replace H := Fr.order [.row 99 (.slice none 0 0) ([] : List (Int × Int)), .row 3 (.slice none 0 0) ([] : List Int), mapN Try.prog 3 b11 [], .box b8 24 [.int .i64 0, (.slice none 0 0)], .box b4 29 [(.slice none 0 0), (.slice none 0 0)], .box b2 24 [.int .i64 0, (.slice none 0 0)]] [] H [2, 3, 0, 1, 4, 5] (by show List.Perm _ (List.range 6); decide)
  replace H : Fr _ _ _ [mapN Try.prog 3 b11 [], .box b8 24 [.int .i64 0, (.slice none 0 0)], .row 99 (.slice none 0 0) ([] : List (Int × Int)), .row 3 (.slice none 0 0) ([] : List Int), .box b4 29 [(.slice none 0 0), (.slice none 0 0)], .box b2 24 [.int .i64 0, (.slice none 0 0)]] := H
  refine go_loop_ (Int × List (Int × Int) × Int × Value × List (Int × Int) × Value × List Int) (fun x_ a W => (fun (i : Int) (m : List (Int × Int)) (n : Int) (ve : Value) (e : List (Int × Int)) (vd : Value) (d : List Int) => EnvOk 96 a (keepEnv [(2, .pointer (some ⟨b2, 0, none⟩)), (3, .pointer (some ⟨b4, 0, none⟩)), (5, .pointer (some ⟨b8, 0, none⟩)), (6, (.map (some b11))), (7, vd), (15, vl), (16, .int .i64 (l.length : Int)), (17, .int .i64 i)]) ∧ (∃ S, Fr o W S [mapN Try.prog 3 b11 m, .box b8 24 [.int .i64 n, ve], .row 99 ve e, .row 3 vd d, .box b4 29 [(.slice none 0 0), (.slice none 0 0)], .box b2 24 [.int .i64 0, (.slice none 0 0)]]) ∧ 0 ≤ i ∧ i ≤ (l.length : Int) ∧ (m.length : Int) ≤ i ∧ (e.length : Int) ≤ i ∧ (d.length : Int) ≤ i ∧ (∀ j : Nat, (j : Int) < i → okLk l j) ∧ (∀ x, (lastAt m x).isSome = true ↔ x ∈ idsK (l.take i.toNat)) ∧ n = nK (l.take i.toNat) ∧ e = eK (l.take i.toNat) ∧ d = upto i) x_.1 x_.2.1 x_.2.2.1 x_.2.2.2.1 x_.2.2.2.2.1 x_.2.2.2.2.2.1 x_.2.2.2.2.2.2) (fun x_ => (fun (i : Int) (m : List (Int × Int)) (n : Int) (ve : Value) (e : List (Int × Int)) (vd : Value) (d : List Int) => ((l.length : Int) - i).toNat) x_.1 x_.2.1 x_.2.2.1 x_.2.2.2.1 x_.2.2.2.2.1 x_.2.2.2.2.2.1 x_.2.2.2.2.2.2) (0, [], 0, .slice none 0 0, [], .slice none 0 0, []) ?_ (fun x_ a w20 hI => ?_)
  · (try dsimp only); exact ⟨env_sub _ hA, ⟨_, H⟩, by omega, by omega, by simp, by simp, by simp, fun j hj => by omega, fun x => by simp [lastAt, idsK], by simp [nK], by simp [eK], rfl⟩
  obtain ⟨i, m, n, ve, e, vd, d⟩ := x_
  obtain ⟨hA, ⟨S, H⟩, h0, h0b, hm1, he1, hd1, hok, hid, hn, he, hd⟩ := hI
  try dsimp only at h0 h0b hm1 he1 hd1 hok hid hn he hd
  replace H : Fr _ _ _ [mapN Try.prog 3 b11 m, .box b8 24 [.int .i64 n, ve], .row 99 ve e, .row 3 vd d, .box b4 29 [(.slice none 0 0), (.slice none 0 0)], .box b2 24 [.int .i64 0, (.slice none 0 0)]] := H
  have hn9 : 0 ≤ n ∧ n ≤ 1024 := by rw [hn]; exact nK_bd2 (by omega) hok
  refine go_seq fun K21 hK21 => ?_
  refine q_reg [] [(2, .pointer (some ⟨b2, 0, none⟩)), (3, .pointer (some ⟨b4, 0, none⟩)), (5, .pointer (some ⟨b8, 0, none⟩)), (6, (.map (some b11))), (7, vd), (15, vl), (16, .int .i64 (l.length : Int)), (17, .int .i64 i), (18, .bool (decide (i < (l.length : Int))))] ((True) ∧ True) hA H ⟨trivial, trivial⟩ fun a w22 hA H hG => ?_
  refine hK21 _ _ ?_
  refine go_seq fun K23 hK23 => ?_
  refine go_cond hA (.tmp 18) (decide (i < (l.length : Int))) (fun hb24 => ?_) (fun hb24 => ?_)
  · have hhb24 := of_decide_eq_true hb24
    refine go_skip ?_
    refine hK23 _ _ ?_
    refine go_seq fun K25 hK25 => ?_
    refine go_block 1 ?_
    refine go_seq fun K26 hK26 => ?_
    refine region_list ?_
    refine q_list 0 3 [(21, .agg #[.int .i64 ((l.getD i.toNat (0, (0, 0))).1), .int .i64 (((l.getD i.toNat (0, (0, 0))).2).1), .int .i64 (((l.getD i.toNat (0, (0, 0))).2).2)])] [(2, .pointer (some ⟨b2, 0, none⟩)), (3, .pointer (some ⟨b4, 0, none⟩)), (5, .pointer (some ⟨b8, 0, none⟩)), (6, (.map (some b11))), (7, vd), (15, vl), (16, .int .i64 (l.length : Int)), (17, .int .i64 i), (19, .int .i64 i), (21, .agg #[.int .i64 ((l.getD i.toNat (0, (0, 0))).1), .int .i64 (((l.getD i.toNat (0, (0, 0))).2).1), .int .i64 (((l.getD i.toNat (0, (0, 0))).2).2)])] ((True) ∧ ((Try.prog.info? 92).isSome = true ∧ IdxOk vl i) ∧ ((Try.prog.info? 92).isSome = true ∧ RowOk (On w22) (hdB vl) (hdO vl + i.toNat * 3) (Try.prog.cellsOf 92) #[.int .i64 ((l.getD i.toNat (0, (0, 0))).1), .int .i64 (((l.getD i.toNat (0, (0, 0))).2).1), .int .i64 (((l.getD i.toNat (0, (0, 0))).2).2)]) ∧ True) hA H ⟨trivial, ⟨by kernel_rfl, by exact idx_ok (H.arg hL) (by omega) (by omega)⟩, ⟨by kernel_rfl, by exact row_flat (i := i) (H.arg hL) (by omega) (by omega) (0, (0, 0))⟩, trivial⟩ fun a w27 hA H hG => ?_
    refine list_at 3 ?_; refine q_alloc 3 9 92 [.int .i64 0, .int .i64 0, .int .i64 0] [(2, .pointer (some ⟨b2, 0, none⟩)), (3, .pointer (some ⟨b4, 0, none⟩)), (5, .pointer (some ⟨b8, 0, none⟩)), (6, (.map (some b11))), (7, vd), (15, vl), (16, .int .i64 (l.length : Int)), (17, .int .i64 i), (19, .int .i64 i), (21, .agg #[.int .i64 ((l.getD i.toNat (0, (0, 0))).1), .int .i64 (((l.getD i.toNat (0, (0, 0))).2).1), .int .i64 (((l.getD i.toNat (0, (0, 0))).2).2)])] hA H fun b28 a w29 H hA hG hge_b28 => ?_
    clear hge_b28
    refine q_list 4 1 [] [(2, .pointer (some ⟨b2, 0, none⟩)), (3, .pointer (some ⟨b4, 0, none⟩)), (5, .pointer (some ⟨b8, 0, none⟩)), (6, (.map (some b11))), (7, vd), (8, .int .i64 i), (9, .pointer (some ⟨b28, 0, none⟩)), (15, vl), (16, .int .i64 (l.length : Int)), (17, .int .i64 i), (21, .agg #[.int .i64 ((l.getD i.toNat (0, (0, 0))).1), .int .i64 (((l.getD i.toNat (0, (0, 0))).2).1), .int .i64 (((l.getD i.toNat (0, (0, 0))).2).2)])] ((True) ∧ True) hA H ⟨trivial, trivial⟩ fun a w30 hA H hG => ?_
    refine list_at 5 ?_; refine q_store 5 92 (.tmp 9) (.tmp 21) 0 b28 (0) 92 [.int .i64 0, .int .i64 0, .int .i64 0] [.int .i64 ((l.getD i.toNat (0, (0, 0))).1), .int .i64 (((l.getD i.toNat (0, (0, 0))).2).1), .int .i64 (((l.getD i.toNat (0, (0, 0))).2).2)] [.int .i64 ((l.getD i.toNat (0, (0, 0))).1), .int .i64 (((l.getD i.toNat (0, (0, 0))).2).1), .int .i64 (((l.getD i.toNat (0, (0, 0))).2).2)] (.agg #[.int .i64 ((l.getD i.toNat (0, (0, 0))).1), .int .i64 (((l.getD i.toNat (0, (0, 0))).2).1), .int .i64 (((l.getD i.toNat (0, (0, 0))).2).2)]) [(2, .pointer (some ⟨b2, 0, none⟩)), (3, .pointer (some ⟨b4, 0, none⟩)), (5, .pointer (some ⟨b8, 0, none⟩)), (6, (.map (some b11))), (7, vd), (8, .int .i64 i), (9, .pointer (some ⟨b28, 0, none⟩)), (15, vl), (16, .int .i64 (l.length : Int)), (17, .int .i64 i)] hA H rfl rfl (Nat.le_of_ble_eq_true (by kernel_rfl)) rfl (fun v hv => by simp only [List.mem_cons, List.not_mem_nil, or_false] at hv; rcases hv with rfl | rfl | rfl; exact rfl; exact rfl; exact rfl) fun a w31 H hA hG => ?_
    replace H : Fr _ _ _ [.box b28 92 [.int .i64 ((l.getD i.toNat (0, (0, 0))).1), .int .i64 (((l.getD i.toNat (0, (0, 0))).2).1), .int .i64 (((l.getD i.toNat (0, (0, 0))).2).2)], mapN Try.prog 3 b11 m, .box b8 24 [.int .i64 n, ve], .row 99 ve e, .row 3 vd d, .box b4 29 [(.slice none 0 0), (.slice none 0 0)], .box b2 24 [.int .i64 0, (.slice none 0 0)]] := H
    refine list_end ?_
    refine hK26 _ _ ?_
    refine go_seq fun K32 hK32 => ?_
    refine go_seq fun K33 hK33 => ?_
    have hwi := hwf i h0 (by omega)
    have hw3 : wfI (l.getD i.toNat (0, (0, 0))).2.2 := hwi.2.2
    unfold wfI at hw3
    have hid9 := hid (l.getD i.toNat (0, (0, 0))).2.2
    refine q_reg [(25, .int .i64 (((l.getD i.toNat (0, (0, 0))).2).2)), (26, .tuple #[.int .i64 ((lastAt m (((l.getD i.toNat (0, (0, 0))).2).2)).getD 0), .bool ((lastAt m (((l.getD i.toNat (0, (0, 0))).2).2)).isSome)])] [(2, .pointer (some ⟨b2, 0, none⟩)), (3, .pointer (some ⟨b4, 0, none⟩)), (5, .pointer (some ⟨b8, 0, none⟩)), (6, (.map (some b11))), (7, vd), (8, .int .i64 i), (9, .pointer (some ⟨b28, 0, none⟩)), (11, .bool ((lastAt m (((l.getD i.toNat (0, (0, 0))).2).2)).isSome)), (15, vl), (16, .int .i64 (l.length : Int)), (17, .int .i64 i)] ((True) ∧ (0 < Try.prog.cellsOf 3) ∧ (CellOk (On w31) b28 (0 + 2) (.int .i64 (((l.getD i.toNat (0, (0, 0))).2).2))) ∧ (∀ w', On w31 w' → (Instr.lookup 130 (.map (some b11)) (.int .i64 (((l.getD i.toNat (0, (0, 0))).2).2)) true).run Try.prog w' = .ok (.tuple #[.int .i64 ((lastAt m (((l.getD i.toNat (0, (0, 0))).2).2)).getD 0), .bool ((lastAt m (((l.getD i.toNat (0, (0, 0))).2).2)).isSome)]) w') ∧ (True) ∧ (True) ∧ (True) ∧ (True) ∧ (True) ∧ True) hA H ⟨trivial, by decide +kernel, by exact box_cell H 0 rfl 2, by exact mapN_lookT H 1 rfl (obj_on H 1 rfl) ⟨by omega, by omega⟩ Try.underlying130 Try.underlying3 (fun w => by kernel_rfl), trivial, trivial, trivial, trivial, trivial, trivial⟩ fun a w34 hA H hG => ?_
    refine hK33 _ _ ?_
    refine go_seq fun K35 hK35 => ?_
    refine q_reg [(32, .int .i64 ((l.getD i.toNat (0, (0, 0))).1)), (37, .int .i64 (((l.getD i.toNat (0, (0, 0))).2).1)), (42, .int .i64 ((l.getD i.toNat (0, (0, 0))).1)), (44, .int .i64 (((l.getD i.toNat (0, (0, 0))).2).1)), (49, .int .i64 ((l.getD i.toNat (0, (0, 0))).1)), (51, .int .i64 (((l.getD i.toNat (0, (0, 0))).2).1)), (52, .int .i64 (max ((l.getD i.toNat (0, (0, 0))).1) (((l.getD i.toNat (0, (0, 0))).2).1)))] [(2, .pointer (some ⟨b2, 0, none⟩)), (3, .pointer (some ⟨b4, 0, none⟩)), (5, .pointer (some ⟨b8, 0, none⟩)), (6, (.map (some b11))), (7, vd), (8, .int .i64 i), (9, .pointer (some ⟨b28, 0, none⟩)), (15, vl), (16, .int .i64 (l.length : Int)), (17, .int .i64 i), (54, .bool ((((((lastAt m (((l.getD i.toNat (0, (0, 0))).2).2)).isSome) || (decide ((l.getD i.toNat (0, (0, 0))).1 < 0))) || (decide (((l.getD i.toNat (0, (0, 0))).2).1 < 0))) || (decide ((l.getD i.toNat (0, (0, 0))).1 = ((l.getD i.toNat (0, (0, 0))).2).1))) || (decide ((1024 : Int) ≤ max ((l.getD i.toNat (0, (0, 0))).1) (((l.getD i.toNat (0, (0, 0))).2).1)))))] ((True) ∧ (True) ∧ (((lastAt m (((l.getD i.toNat (0, (0, 0))).2).2)).isSome) = false → 0 < Try.prog.cellsOf 3) ∧ (((lastAt m (((l.getD i.toNat (0, (0, 0))).2).2)).isSome) = false → CellOk (On w34) b28 (0 + 0) (.int .i64 ((l.getD i.toNat (0, (0, 0))).1))) ∧ (((lastAt m (((l.getD i.toNat (0, (0, 0))).2).2)).isSome) = false → True) ∧ (True) ∧ (True) ∧ ((((lastAt m (((l.getD i.toNat (0, (0, 0))).2).2)).isSome) || (decide ((l.getD i.toNat (0, (0, 0))).1 < 0))) = false → 0 < Try.prog.cellsOf 3) ∧ ((((lastAt m (((l.getD i.toNat (0, (0, 0))).2).2)).isSome) || (decide ((l.getD i.toNat (0, (0, 0))).1 < 0))) = false → CellOk (On w34) b28 (0 + 1) (.int .i64 (((l.getD i.toNat (0, (0, 0))).2).1))) ∧ ((((lastAt m (((l.getD i.toNat (0, (0, 0))).2).2)).isSome) || (decide ((l.getD i.toNat (0, (0, 0))).1 < 0))) = false → True) ∧ (True) ∧ (True) ∧ (((((lastAt m (((l.getD i.toNat (0, (0, 0))).2).2)).isSome) || (decide ((l.getD i.toNat (0, (0, 0))).1 < 0))) || (decide (((l.getD i.toNat (0, (0, 0))).2).1 < 0))) = false → 0 < Try.prog.cellsOf 3) ∧ (((((lastAt m (((l.getD i.toNat (0, (0, 0))).2).2)).isSome) || (decide ((l.getD i.toNat (0, (0, 0))).1 < 0))) || (decide (((l.getD i.toNat (0, (0, 0))).2).1 < 0))) = false → CellOk (On w34) b28 (0 + 0) (.int .i64 ((l.getD i.toNat (0, (0, 0))).1))) ∧ (((((lastAt m (((l.getD i.toNat (0, (0, 0))).2).2)).isSome) || (decide ((l.getD i.toNat (0, (0, 0))).1 < 0))) || (decide (((l.getD i.toNat (0, (0, 0))).2).1 < 0))) = false → 0 < Try.prog.cellsOf 3) ∧ (((((lastAt m (((l.getD i.toNat (0, (0, 0))).2).2)).isSome) || (decide ((l.getD i.toNat (0, (0, 0))).1 < 0))) || (decide (((l.getD i.toNat (0, (0, 0))).2).1 < 0))) = false → CellOk (On w34) b28 (0 + 1) (.int .i64 (((l.getD i.toNat (0, (0, 0))).2).1))) ∧ (((((lastAt m (((l.getD i.toNat (0, (0, 0))).2).2)).isSome) || (decide ((l.getD i.toNat (0, (0, 0))).1 < 0))) || (decide (((l.getD i.toNat (0, (0, 0))).2).1 < 0))) = false → True) ∧ (True) ∧ (True) ∧ ((((((lastAt m (((l.getD i.toNat (0, (0, 0))).2).2)).isSome) || (decide ((l.getD i.toNat (0, (0, 0))).1 < 0))) || (decide (((l.getD i.toNat (0, (0, 0))).2).1 < 0))) || (decide ((l.getD i.toNat (0, (0, 0))).1 = ((l.getD i.toNat (0, (0, 0))).2).1))) = false → 0 < Try.prog.cellsOf 3) ∧ ((((((lastAt m (((l.getD i.toNat (0, (0, 0))).2).2)).isSome) || (decide ((l.getD i.toNat (0, (0, 0))).1 < 0))) || (decide (((l.getD i.toNat (0, (0, 0))).2).1 < 0))) || (decide ((l.getD i.toNat (0, (0, 0))).1 = ((l.getD i.toNat (0, (0, 0))).2).1))) = false → CellOk (On w34) b28 (0 + 0) (.int .i64 ((l.getD i.toNat (0, (0, 0))).1))) ∧ ((((((lastAt m (((l.getD i.toNat (0, (0, 0))).2).2)).isSome) || (decide ((l.getD i.toNat (0, (0, 0))).1 < 0))) || (decide (((l.getD i.toNat (0, (0, 0))).2).1 < 0))) || (decide ((l.getD i.toNat (0, (0, 0))).1 = ((l.getD i.toNat (0, (0, 0))).2).1))) = false → 0 < Try.prog.cellsOf 3) ∧ ((((((lastAt m (((l.getD i.toNat (0, (0, 0))).2).2)).isSome) || (decide ((l.getD i.toNat (0, (0, 0))).1 < 0))) || (decide (((l.getD i.toNat (0, (0, 0))).2).1 < 0))) || (decide ((l.getD i.toNat (0, (0, 0))).1 = ((l.getD i.toNat (0, (0, 0))).2).1))) = false → CellOk (On w34) b28 (0 + 1) (.int .i64 (((l.getD i.toNat (0, (0, 0))).2).1))) ∧ ((((((lastAt m (((l.getD i.toNat (0, (0, 0))).2).2)).isSome) || (decide ((l.getD i.toNat (0, (0, 0))).1 < 0))) || (decide (((l.getD i.toNat (0, (0, 0))).2).1 < 0))) || (decide ((l.getD i.toNat (0, (0, 0))).1 = ((l.getD i.toNat (0, (0, 0))).2).1))) = false → ∀ ty w, (Builtin.max_ #[3, 3] ty [.int .i64 ((l.getD i.toNat (0, (0, 0))).1), .int .i64 (((l.getD i.toNat (0, (0, 0))).2).1)].toArray).run Try.prog w = .ok (.int .i64 (max ((l.getD i.toNat (0, (0, 0))).1) (((l.getD i.toNat (0, (0, 0))).2).1))) w) ∧ ((((((lastAt m (((l.getD i.toNat (0, (0, 0))).2).2)).isSome) || (decide ((l.getD i.toNat (0, (0, 0))).1 < 0))) || (decide (((l.getD i.toNat (0, (0, 0))).2).1 < 0))) || (decide ((l.getD i.toNat (0, (0, 0))).1 = ((l.getD i.toNat (0, (0, 0))).2).1))) = false → True) ∧ (True) ∧ True) hA H ⟨trivial, trivial, fun _ => by decide +kernel, fun _ => by exact box_cell H 0 rfl 0, fun _ => trivial, trivial, trivial, fun _ => by decide +kernel, fun _ => by exact box_cell H 0 rfl 1, fun _ => trivial, trivial, trivial, fun _ => by decide +kernel, fun _ => by exact box_cell H 0 rfl 0, fun _ => by decide +kernel, fun _ => by exact box_cell H 0 rfl 1, fun _ => trivial, trivial, trivial, fun _ => by decide +kernel, fun _ => by exact box_cell H 0 rfl 0, fun _ => by decide +kernel, fun _ => by exact box_cell H 0 rfl 1, fun _ => fun ty w => max_ok ty w, fun _ => trivial, trivial, trivial⟩ fun a w36 hA H hG => ?_
    refine hK35 _ _ ?_
    refine go_cond hA (.tmp 54) ((((((lastAt m (((l.getD i.toNat (0, (0, 0))).2).2)).isSome) || (decide ((l.getD i.toNat (0, (0, 0))).1 < 0))) || (decide (((l.getD i.toNat (0, (0, 0))).2).1 < 0))) || (decide ((l.getD i.toNat (0, (0, 0))).1 = ((l.getD i.toNat (0, (0, 0))).2).1))) || (decide ((1024 : Int) ≤ max ((l.getD i.toNat (0, (0, 0))).1) (((l.getD i.toNat (0, (0, 0))).2).1)))) (fun hb37 => ?_) (fun hb37 => ?_)
    · have hhb37 := (oT hb37).imp (fun h => (oT h).imp (fun h => (oT h).imp (fun h => (oT h).imp (fun h => h) (fun h => of_decide_eq_true h)) (fun h => of_decide_eq_true h)) (fun h => of_decide_eq_true h)) (fun h => of_decide_eq_true h)
      refine go_seq fun K38 hK38 => ?_
      refine region_list ?_
      refine q_list 0 2 [(55, .agg #[.int .i64 0, (.slice none 0 0)]), (56, .agg #[(.slice none 0 0), (.slice none 0 0)])] [(2, .pointer (some ⟨b2, 0, none⟩)), (3, .pointer (some ⟨b4, 0, none⟩)), (55, .agg #[.int .i64 0, (.slice none 0 0)]), (56, .agg #[(.slice none 0 0), (.slice none 0 0)])] ((∀ w, (Instr.build 24 #[]).run Try.prog w = .ok (.agg #[.int .i64 0, (.slice none 0 0)]) w) ∧ (∀ w, (Instr.build 29 #[]).run Try.prog w = .ok (.agg #[(.slice none 0 0), (.slice none 0 0)]) w) ∧ True) hA H ⟨fun w => by kernel_rfl, fun w => by kernel_rfl, trivial⟩ fun a w39 hA H hG => ?_
      refine list_at 2 ?_; refine q_store 2 24 (.tmp 2) (.tmp 55) 6 b2 (0) 24 [.int .i64 0, (.slice none 0 0)] [.int .i64 0, (.slice none 0 0)] [.int .i64 0, (.slice none 0 0)] (.agg #[.int .i64 0, (.slice none 0 0)]) [(2, .pointer (some ⟨b2, 0, none⟩)), (3, .pointer (some ⟨b4, 0, none⟩)), (56, .agg #[(.slice none 0 0), (.slice none 0 0)])] hA H rfl rfl (Nat.le_of_ble_eq_true (by kernel_rfl)) rfl (fun v hv => by simp only [List.mem_cons, List.not_mem_nil, or_false] at hv; rcases hv with rfl | rfl; exact rfl; exact rfl) fun a w40 H hA hG => ?_
      replace H : Fr _ _ _ [.box b28 92 [.int .i64 ((l.getD i.toNat (0, (0, 0))).1), .int .i64 (((l.getD i.toNat (0, (0, 0))).2).1), .int .i64 (((l.getD i.toNat (0, (0, 0))).2).2)], mapN Try.prog 3 b11 m, .box b8 24 [.int .i64 n, ve], .row 99 ve e, .row 3 vd d, .box b4 29 [(.slice none 0 0), (.slice none 0 0)], .box b2 24 [.int .i64 0, (.slice none 0 0)]] := H
      refine list_at 3 ?_; refine q_store 3 29 (.tmp 3) (.tmp 56) 5 b4 (0) 29 [(.slice none 0 0), (.slice none 0 0)] [(.slice none 0 0), (.slice none 0 0)] [(.slice none 0 0), (.slice none 0 0)] (.agg #[(.slice none 0 0), (.slice none 0 0)]) [(2, .pointer (some ⟨b2, 0, none⟩)), (3, .pointer (some ⟨b4, 0, none⟩))] hA H rfl rfl (Nat.le_of_ble_eq_true (by kernel_rfl)) rfl (fun v hv => by simp only [List.mem_cons, List.not_mem_nil, or_false] at hv; rcases hv with rfl | rfl; exact rfl; exact rfl) fun a w41 H hA hG => ?_
      replace H : Fr _ _ _ [.box b28 92 [.int .i64 ((l.getD i.toNat (0, (0, 0))).1), .int .i64 (((l.getD i.toNat (0, (0, 0))).2).1), .int .i64 (((l.getD i.toNat (0, (0, 0))).2).2)], mapN Try.prog 3 b11 m, .box b8 24 [.int .i64 n, ve], .row 99 ve e, .row 3 vd d, .box b4 29 [(.slice none 0 0), (.slice none 0 0)], .box b2 24 [.int .i64 0, (.slice none 0 0)]] := H
      refine q_list 4 1 [] [(2, .pointer (some ⟨b2, 0, none⟩)), (3, .pointer (some ⟨b4, 0, none⟩)), (4, .bool false)] ((True) ∧ True) hA H ⟨trivial, trivial⟩ fun a w42 hA H hG => ?_
      refine list_end ?_
      refine hK38 _ _ ?_
      refine go_ret_ ?_
      refine ret_cells3 2 3 4 24 29 6 5 b2 b4 24 29 [.int .i64 0, (.slice none 0 0)] [(.slice none 0 0), (.slice none 0 0)] #[.int .i64 0, (.slice none 0 0)] #[(.slice none 0 0), (.slice none 0 0)] (.bool false) hA H rfl rfl ?_ (ht := ⟨_, Try.underlying24⟩) (ht' := ⟨_, Try.underlying29⟩)
      exact ⟨_, rfl, by rw [wholeR_bad (i := i.toNat) (by omega) (fun q => by obtain ⟨p1, p2, p3, p4, p5⟩ := (okLk_iff ⟨h0, by omega⟩ hid).1 q; rcases hhb37 with (((h | h) | h) | h) | h; all_goals first | exact p1 h | exact p4 h | omega)]; exact ⟨_, _, rfl, rd_gp rd_nil, rd_two (x := (([] : List Int), ([] : List Int))) rd_nil rd_nil⟩, H.below⟩
    · have hhb37 := (⟨(⟨(⟨(⟨(oF ((oF ((oF ((oF hb37).1)).1)).1)).1, of_decide_eq_false ((oF ((oF ((oF ((oF hb37).1)).1)).1)).2)⟩ : _ ∧ _), of_decide_eq_false ((oF ((oF ((oF hb37).1)).1)).2)⟩ : _ ∧ _), of_decide_eq_false ((oF ((oF hb37).1)).2)⟩ : _ ∧ _), of_decide_eq_false ((oF hb37).2)⟩ : _ ∧ _)
      refine go_skip ?_
      refine hK32 _ _ ?_
      refine go_seq fun K43 hK43 => ?_
      have hlk : okLk l i.toNat := (okLk_iff ⟨h0, by omega⟩ hid).2 (by obtain ⟨⟨⟨⟨q1, q2⟩, q3⟩, q4⟩, q5⟩ := hhb37; exact ⟨by rw [q1]; decide, by omega, by omega, q4, by omega⟩)
      have hlk9 := hlk.2
      refine region_list ?_
      refine q_list 0 4 [(59, .int .i64 (((l.getD i.toNat (0, (0, 0))).2).2))] [(2, .pointer (some ⟨b2, 0, none⟩)), (3, .pointer (some ⟨b4, 0, none⟩)), (5, .pointer (some ⟨b8, 0, none⟩)), (6, (.map (some b11))), (7, vd), (8, .int .i64 i), (9, .pointer (some ⟨b28, 0, none⟩)), (15, vl), (16, .int .i64 (l.length : Int)), (17, .int .i64 i), (57, (.map (some b11))), (59, .int .i64 (((l.getD i.toNat (0, (0, 0))).2).2)), (60, .int .i64 i)] ((True) ∧ (0 < Try.prog.cellsOf 3) ∧ (CellOk (On w36) b28 (0 + 2) (.int .i64 (((l.getD i.toNat (0, (0, 0))).2).2))) ∧ (True) ∧ True) hA H ⟨trivial, by decide +kernel, by exact box_cell H 0 rfl 2, trivial, trivial⟩ fun a w44 hA H hG => ?_
      refine list_at 4 ?_; refine q_mapUpdateN 4 130 (.tmp 57) (.tmp 59) (.tmp 60) 1 b11 m (((l.getD i.toNat (0, (0, 0))).2).2) i [(2, .pointer (some ⟨b2, 0, none⟩)), (3, .pointer (some ⟨b4, 0, none⟩)), (5, .pointer (some ⟨b8, 0, none⟩)), (6, (.map (some b11))), (7, vd), (8, .int .i64 i), (9, .pointer (some ⟨b28, 0, none⟩)), (15, vl), (16, .int .i64 (l.length : Int)), (17, .int .i64 i)] hA H rfl ⟨by omega, by omega⟩ (by (try simp only [List.length_append, List.length_cons, List.length_nil]); omega) Try.underlying130 Try.underlying3 fun a w45 H hA hG => ?_
      replace H : Fr _ _ _ [.box b28 92 [.int .i64 ((l.getD i.toNat (0, (0, 0))).1), .int .i64 (((l.getD i.toNat (0, (0, 0))).2).1), .int .i64 (((l.getD i.toNat (0, (0, 0))).2).2)], mapN Try.prog 3 b11 (m ++ [(((l.getD i.toNat (0, (0, 0))).2).2, i)]), .box b8 24 [.int .i64 n, ve], .row 99 ve e, .row 3 vd d, .box b4 29 [(.slice none 0 0), (.slice none 0 0)], .box b2 24 [.int .i64 0, (.slice none 0 0)]] := H
      refine list_end ?_
      refine hK43 _ _ ?_
      refine go_seq fun K46 hK46 => ?_
      refine region_list ?_
      refine q_list 0 2 [] [(2, .pointer (some ⟨b2, 0, none⟩)), (3, .pointer (some ⟨b4, 0, none⟩)), (5, .pointer (some ⟨b8, 0, none⟩)), (6, (.map (some b11))), (9, .pointer (some ⟨b28, 0, none⟩)), (15, vl), (16, .int .i64 (l.length : Int)), (17, .int .i64 i), (61, vd), (62, .int .i64 i)] ((True) ∧ (True) ∧ True) hA H ⟨trivial, trivial, trivial⟩ fun a w47 hA H hG => ?_
      refine list_at 2 ?_; refine q_lit 2 63 27 1 #[(0, .tmp 62)] 3 [(0, .int .i64 i)] [.int .i64 i] [(2, .pointer (some ⟨b2, 0, none⟩)), (3, .pointer (some ⟨b4, 0, none⟩)), (5, .pointer (some ⟨b8, 0, none⟩)), (6, (.map (some b11))), (9, .pointer (some ⟨b28, 0, none⟩)), (15, vl), (16, .int .i64 (l.length : Int)), (17, .int .i64 i), (61, vd)] hA H fun b48 a w49 H hA hG hge_b48 => ?_
      clear hge_b48
      refine list_at 3 ?_; refine q_push 3 64 (.tmp 61) (.tmp 63) 5 0 b48 1 1 vd d [i] [.int .i64 i] [(2, .pointer (some ⟨b2, 0, none⟩)), (3, .pointer (some ⟨b4, 0, none⟩)), (5, .pointer (some ⟨b8, 0, none⟩)), (6, (.map (some b11))), (9, .pointer (some ⟨b28, 0, none⟩)), (15, vl), (16, .int .i64 (l.length : Int)), (17, .int .i64 i)] hA H Try.E27 rfl rfl (by exact (RowRd.single (α := Int) rfl)) rfl (by simp only [List.length_cons, List.length_nil, List.length_append]; omega) (by decide) fun v50 a w51 H hA hG => ?_
      replace H : Fr _ _ _ [.box b28 92 [.int .i64 ((l.getD i.toNat (0, (0, 0))).1), .int .i64 (((l.getD i.toNat (0, (0, 0))).2).1), .int .i64 (((l.getD i.toNat (0, (0, 0))).2).2)], mapN Try.prog 3 b11 (m ++ [(((l.getD i.toNat (0, (0, 0))).2).2, i)]), .box b8 24 [.int .i64 n, ve], .row 99 ve e, .row 3 v50 (d ++ [i]), .box b4 29 [(.slice none 0 0), (.slice none 0 0)], .box b2 24 [.int .i64 0, (.slice none 0 0)]] := H.drop 0
      refine q_list 4 1 [] [(2, .pointer (some ⟨b2, 0, none⟩)), (3, .pointer (some ⟨b4, 0, none⟩)), (5, .pointer (some ⟨b8, 0, none⟩)), (6, (.map (some b11))), (7, v50), (9, .pointer (some ⟨b28, 0, none⟩)), (15, vl), (16, .int .i64 (l.length : Int)), (17, .int .i64 i)] ((True) ∧ True) hA H ⟨trivial, trivial⟩ fun a w52 hA H hG => ?_
      refine list_end ?_
      refine hK46 _ _ ?_
      refine go_seq fun K53 hK53 => ?_
      refine region_list ?_
      refine q_list 0 10 [(66, .int .i64 n), (68, .int .i64 ((l.getD i.toNat (0, (0, 0))).1)), (71, .int .i64 (((l.getD i.toNat (0, (0, 0))).2).1)), (73, .int .i64 (max (max n (((l.getD i.toNat (0, (0, 0))).1) + 1)) ((((l.getD i.toNat (0, (0, 0))).2).1) + 1)))] [(2, .pointer (some ⟨b2, 0, none⟩)), (3, .pointer (some ⟨b4, 0, none⟩)), (5, .pointer (some ⟨b8, 0, none⟩)), (6, (.map (some b11))), (7, v50), (9, .pointer (some ⟨b28, 0, none⟩)), (15, vl), (16, .int .i64 (l.length : Int)), (17, .int .i64 i), (73, .int .i64 (max (max n (((l.getD i.toNat (0, (0, 0))).1) + 1)) ((((l.getD i.toNat (0, (0, 0))).2).1) + 1))), (74, .pointer (some ⟨b8, 0 + 0, none⟩))] ((0 < Try.prog.cellsOf 3) ∧ (CellOk (On w52) b8 (0 + 0) (.int .i64 n)) ∧ (0 < Try.prog.cellsOf 3) ∧ (CellOk (On w52) b28 (0 + 0) (.int .i64 ((l.getD i.toNat (0, (0, 0))).1))) ∧ (InR .i64 (((l.getD i.toNat (0, (0, 0))).1) + 1)) ∧ (0 < Try.prog.cellsOf 3) ∧ (CellOk (On w52) b28 (0 + 1) (.int .i64 (((l.getD i.toNat (0, (0, 0))).2).1))) ∧ (InR .i64 ((((l.getD i.toNat (0, (0, 0))).2).1) + 1)) ∧ (∀ ty w, (Builtin.max_ #[3, 3, 3] ty [.int .i64 n, .int .i64 (((l.getD i.toNat (0, (0, 0))).1) + 1), .int .i64 ((((l.getD i.toNat (0, (0, 0))).2).1) + 1)].toArray).run Try.prog w = .ok (.int .i64 (max (max n (((l.getD i.toNat (0, (0, 0))).1) + 1)) ((((l.getD i.toNat (0, (0, 0))).2).1) + 1))) w) ∧ (0 < Try.prog.cellsOf 3) ∧ True) hA H ⟨by decide +kernel, by exact box_cell H 2 rfl 0, by decide +kernel, by exact box_cell H 0 rfl 0, ⟨by omega, by omega⟩, by decide +kernel, by exact box_cell H 0 rfl 1, ⟨by omega, by omega⟩, fun ty w => max3_ok ty w, by decide +kernel, trivial⟩ fun a w54 hA H hG => ?_
      refine list_at 10 ?_; refine q_store 10 3 (.tmp 74) (.tmp 73) 2 b8 (0 + 0) 24 [.int .i64 n, ve] [.int .i64 (max (max n (((l.getD i.toNat (0, (0, 0))).1) + 1)) ((((l.getD i.toNat (0, (0, 0))).2).1) + 1))] [.int .i64 (max (max n (((l.getD i.toNat (0, (0, 0))).1) + 1)) ((((l.getD i.toNat (0, (0, 0))).2).1) + 1)), ve] (.int .i64 (max (max n (((l.getD i.toNat (0, (0, 0))).1) + 1)) ((((l.getD i.toNat (0, (0, 0))).2).1) + 1))) [(2, .pointer (some ⟨b2, 0, none⟩)), (3, .pointer (some ⟨b4, 0, none⟩)), (5, .pointer (some ⟨b8, 0, none⟩)), (6, (.map (some b11))), (7, v50), (9, .pointer (some ⟨b28, 0, none⟩)), (15, vl), (16, .int .i64 (l.length : Int)), (17, .int .i64 i)] hA H rfl rfl (Nat.le_of_ble_eq_true (by kernel_rfl)) rfl (fun v hv => by simp only [List.mem_cons, List.not_mem_nil, or_false] at hv; rcases hv with rfl; exact rfl) fun a w55 H hA hG => ?_
      replace H : Fr _ _ _ [.box b28 92 [.int .i64 ((l.getD i.toNat (0, (0, 0))).1), .int .i64 (((l.getD i.toNat (0, (0, 0))).2).1), .int .i64 (((l.getD i.toNat (0, (0, 0))).2).2)], mapN Try.prog 3 b11 (m ++ [(((l.getD i.toNat (0, (0, 0))).2).2, i)]), .box b8 24 [.int .i64 (max (max n (((l.getD i.toNat (0, (0, 0))).1) + 1)) ((((l.getD i.toNat (0, (0, 0))).2).1) + 1)), ve], .row 99 ve e, .row 3 v50 (d ++ [i]), .box b4 29 [(.slice none 0 0), (.slice none 0 0)], .box b2 24 [.int .i64 0, (.slice none 0 0)]] := H
      refine list_end ?_
      refine hK53 _ _ ?_
      refine region_list ?_
      refine q_list 0 7 [(76, ve), (78, .int .i64 ((l.getD i.toNat (0, (0, 0))).1)), (80, .int .i64 (((l.getD i.toNat (0, (0, 0))).2).1)), (81, .agg #[.int .i64 ((l.getD i.toNat (0, (0, 0))).1), .int .i64 (((l.getD i.toNat (0, (0, 0))).2).1)])] [(2, .pointer (some ⟨b2, 0, none⟩)), (3, .pointer (some ⟨b4, 0, none⟩)), (5, .pointer (some ⟨b8, 0, none⟩)), (6, (.map (some b11))), (7, v50), (15, vl), (16, .int .i64 (l.length : Int)), (17, .int .i64 i), (76, ve), (81, .agg #[.int .i64 ((l.getD i.toNat (0, (0, 0))).1), .int .i64 (((l.getD i.toNat (0, (0, 0))).2).1)])] ((0 < Try.prog.cellsOf 22) ∧ (CellOk (On w55) b8 (0 + 1) (ve)) ∧ (0 < Try.prog.cellsOf 3) ∧ (CellOk (On w55) b28 (0 + 0) (.int .i64 ((l.getD i.toNat (0, (0, 0))).1))) ∧ (0 < Try.prog.cellsOf 3) ∧ (CellOk (On w55) b28 (0 + 1) (.int .i64 (((l.getD i.toNat (0, (0, 0))).2).1))) ∧ (∀ w, (Instr.build 99 #[(0, .int .i64 ((l.getD i.toNat (0, (0, 0))).1)), (1, .int .i64 (((l.getD i.toNat (0, (0, 0))).2).1))]).run Try.prog w = .ok (.agg #[.int .i64 ((l.getD i.toNat (0, (0, 0))).1), .int .i64 (((l.getD i.toNat (0, (0, 0))).2).1)]) w) ∧ True) hA H ⟨by decide +kernel, by exact box_cell H 2 rfl 1, by decide +kernel, by exact box_cell H 0 rfl 0, by decide +kernel, by exact box_cell H 0 rfl 1, fun w => by kernel_rfl, trivial⟩ fun a w56 hA H hG => ?_
      refine list_at 7 ?_; refine q_lit 7 82 22 1 #[(0, .tmp 81)] 99 [(0, .agg #[.int .i64 ((l.getD i.toNat (0, (0, 0))).1), .int .i64 (((l.getD i.toNat (0, (0, 0))).2).1)])] [.int .i64 ((l.getD i.toNat (0, (0, 0))).1), .int .i64 (((l.getD i.toNat (0, (0, 0))).2).1)] [(2, .pointer (some ⟨b2, 0, none⟩)), (3, .pointer (some ⟨b4, 0, none⟩)), (5, .pointer (some ⟨b8, 0, none⟩)), (6, (.map (some b11))), (7, v50), (15, vl), (16, .int .i64 (l.length : Int)), (17, .int .i64 i), (76, ve)] hA H fun b57 a w58 H hA hG hge_b57 => ?_
      clear hge_b57
      refine list_at 8 ?_; refine q_push 8 83 (.tmp 76) (.tmp 82) 4 0 b57 1 1 ve e [((l.getD i.toNat (0, (0, 0))).1, ((l.getD i.toNat (0, (0, 0))).2).1)] [.int .i64 ((l.getD i.toNat (0, (0, 0))).1), .int .i64 (((l.getD i.toNat (0, (0, 0))).2).1)] [(2, .pointer (some ⟨b2, 0, none⟩)), (3, .pointer (some ⟨b4, 0, none⟩)), (5, .pointer (some ⟨b8, 0, none⟩)), (6, (.map (some b11))), (7, v50), (15, vl), (16, .int .i64 (l.length : Int)), (17, .int .i64 i)] hA H Try.E22 rfl rfl (by exact (RowRd.single (α := Int × Int) ⟨[_], _, rfl, rfl, rfl⟩)) rfl (by simp only [List.length_cons, List.length_nil, List.length_append]; omega) (by decide) fun v59 a w60 H hA hG => ?_
      replace H : Fr _ _ _ [.box b28 92 [.int .i64 ((l.getD i.toNat (0, (0, 0))).1), .int .i64 (((l.getD i.toNat (0, (0, 0))).2).1), .int .i64 (((l.getD i.toNat (0, (0, 0))).2).2)], mapN Try.prog 3 b11 (m ++ [(((l.getD i.toNat (0, (0, 0))).2).2, i)]), .box b8 24 [.int .i64 (max (max n (((l.getD i.toNat (0, (0, 0))).1) + 1)) ((((l.getD i.toNat (0, (0, 0))).2).1) + 1)), ve], .row 99 v59 (e ++ [((l.getD i.toNat (0, (0, 0))).1, ((l.getD i.toNat (0, (0, 0))).2).1)]), .row 3 v50 (d ++ [i]), .box b4 29 [(.slice none 0 0), (.slice none 0 0)], .box b2 24 [.int .i64 0, (.slice none 0 0)]] := H.drop 0
      refine q_list 9 1 [] [(2, .pointer (some ⟨b2, 0, none⟩)), (3, .pointer (some ⟨b4, 0, none⟩)), (5, .pointer (some ⟨b8, 0, none⟩)), (6, (.map (some b11))), (7, v50), (15, vl), (16, .int .i64 (l.length : Int)), (17, .int .i64 i), (83, v59), (84, .pointer (some ⟨b8, 0 + 1, none⟩))] ((0 < Try.prog.cellsOf 22) ∧ True) hA H ⟨by decide +kernel, trivial⟩ fun a w61 hA H hG => ?_
      refine list_at 10 ?_; refine q_store 10 22 (.tmp 84) (.tmp 83) 2 b8 (0 + 1) 24 [.int .i64 (max (max n (((l.getD i.toNat (0, (0, 0))).1) + 1)) ((((l.getD i.toNat (0, (0, 0))).2).1) + 1)), ve] [v59] [.int .i64 (max (max n (((l.getD i.toNat (0, (0, 0))).1) + 1)) ((((l.getD i.toNat (0, (0, 0))).2).1) + 1)), v59] v59 [(2, .pointer (some ⟨b2, 0, none⟩)), (3, .pointer (some ⟨b4, 0, none⟩)), (5, .pointer (some ⟨b8, 0, none⟩)), (6, (.map (some b11))), (7, v50), (15, vl), (16, .int .i64 (l.length : Int)), (17, .int .i64 i)] hA H rfl (one_cells (rd_one (H.out 3 rfl))) (Nat.le_of_ble_eq_true (by kernel_rfl)) rfl (fun v hv => by simp only [List.mem_cons, List.not_mem_nil, or_false] at hv; rcases hv with rfl; exact (rd_one (H.out 3 rfl))) fun a w62 H hA hG => ?_
      replace H : Fr _ _ _ [.box b28 92 [.int .i64 ((l.getD i.toNat (0, (0, 0))).1), .int .i64 (((l.getD i.toNat (0, (0, 0))).2).1), .int .i64 (((l.getD i.toNat (0, (0, 0))).2).2)], mapN Try.prog 3 b11 (m ++ [(((l.getD i.toNat (0, (0, 0))).2).2, i)]), .box b8 24 [.int .i64 (max (max n (((l.getD i.toNat (0, (0, 0))).1) + 1)) ((((l.getD i.toNat (0, (0, 0))).2).1) + 1)), v59], .row 99 v59 (e ++ [((l.getD i.toNat (0, (0, 0))).1, ((l.getD i.toNat (0, (0, 0))).2).1)]), .row 3 v50 (d ++ [i]), .box b4 29 [(.slice none 0 0), (.slice none 0 0)], .box b2 24 [.int .i64 0, (.slice none 0 0)]] := H
      refine list_end ?_
      refine hK25 _ _ ?_
      refine q_reg [] [(2, .pointer (some ⟨b2, 0, none⟩)), (3, .pointer (some ⟨b4, 0, none⟩)), (5, .pointer (some ⟨b8, 0, none⟩)), (6, (.map (some b11))), (7, v50), (15, vl), (16, .int .i64 (l.length : Int)), (17, .int .i64 (i + 1))] ((InR .i64 (i + 1)) ∧ (True) ∧ True) hA H ⟨⟨by omega, by omega⟩, trivial, trivial⟩ fun a w63 hA H hG => ?_
      replace H := H.drop 0
      refine ⟨(i + 1, m ++ [(((l.getD i.toNat (0, (0, 0))).2).2, i)], max (max n (((l.getD i.toNat (0, (0, 0))).1) + 1)) ((((l.getD i.toNat (0, (0, 0))).2).1) + 1), v59, e ++ [((l.getD i.toNat (0, (0, 0))).1, ((l.getD i.toNat (0, (0, 0))).2).1)], v50, d ++ [i]), ⟨env_sub _ hA, ⟨_, H⟩, ?_⟩, ?_⟩
      · (try dsimp only); refine ⟨by omega, by omega, by (try simp only [List.length_append, List.length_cons, List.length_nil]); omega, by (try simp only [List.length_append, List.length_cons, List.length_nil]); omega, by (try simp only [List.length_append, List.length_cons, List.length_nil]); omega, fun j hj => if q : (j : Int) = i then (by rw [show j = i.toNat by omega]; exact hlk) else hok j (by omega), by rw [idsK_snoc h0 (by omega)]; exact put_ids hid _ _, by rw [hn, nK_snoc h0 (by omega)], by rw [he, eK_snoc h0 (by omega)], by rw [hd, upto_succ h0]⟩
      · (try dsimp only); omega
  · have hhb24 := of_decide_eq_false hb24
    refine go_exit 0 ?_
    refine hK16 _ _ ?_
    refine go_seq fun K64 hK64 => ?_
    refine region_list ?_
    refine q_list 0 2 [(87, .agg #[.int .i64 n, ve])] [(2, .pointer (some ⟨b2, 0, none⟩)), (3, .pointer (some ⟨b4, 0, none⟩)), (5, .pointer (some ⟨b8, 0, none⟩)), (87, .agg #[.int .i64 n, ve]), (88, vd)] (((Try.prog.info? 24).isSome = true ∧ RowOk (On w22) b8 (0) (Try.prog.cellsOf 24) #[.int .i64 n, ve]) ∧ (True) ∧ True) hA H ⟨⟨by kernel_rfl, by exact box_row H 1 rfl 0 2⟩, trivial, trivial⟩ fun a w65 hA H hG => ?_
    refine list_at 2 ?_; refine q_call 2 89 26 #[.tmp 87, .tmp 88] #[24, 27] [.agg #[.int .i64 n, ve], vd] (fun S v_ w' => ∃ p_, v_ = .tuple #[p_, .int .i64 ((spanE n e d).2)] ∧ Rd S w' p_ ((spanE n e d).1)) [(2, .pointer (some ⟨b2, 0, none⟩)), (3, .pointer (some ⟨b4, 0, none⟩)), (5, .pointer (some ⟨b8, 0, none⟩))] hA H (by exact span_any n ve e vd d H.at (by omega) ((H.out 2 rfl)) ((H.out 3 rfl))) fun v66 a w67 S hR68 H hA hG => ?_
    obtain ⟨v66p, rfl, hR68p⟩ := hR68
    obtain ⟨v66a, v66b, rfl, hR68a, hR68b⟩ := two_rd hR68p
    replace H := H.ro hR68a; replace H := H.ro hR68b
    replace H : Fr _ _ _ [.ro v66b (((spanE n e d).1).2), .ro v66a (((spanE n e d).1).1), mapN Try.prog 3 b11 m, .box b8 24 [.int .i64 n, ve], .row 99 ve e, .row 3 vd d, .box b4 29 [(.slice none 0 0), (.slice none 0 0)], .box b2 24 [.int .i64 0, (.slice none 0 0)]] := H
    refine q_list 3 3 [] [(2, .pointer (some ⟨b2, 0, none⟩)), (3, .pointer (some ⟨b4, 0, none⟩)), (5, .pointer (some ⟨b8, 0, none⟩)), (90, .agg #[v66a, v66b]), (91, .int .i64 ((spanE n e d).2))] ((True) ∧ (True) ∧ (True) ∧ True) hA H ⟨trivial, trivial, trivial, trivial⟩ fun a w71 hA H hG => ?_
    refine list_at 6 ?_; refine q_alloc 6 12 29 [(.slice none 0 0), (.slice none 0 0)] [(2, .pointer (some ⟨b2, 0, none⟩)), (3, .pointer (some ⟨b4, 0, none⟩)), (5, .pointer (some ⟨b8, 0, none⟩)), (90, .agg #[v66a, v66b]), (91, .int .i64 ((spanE n e d).2))] hA H fun b72 a w73 H hA hG hge_b72 => ?_
    clear hge_b72
    refine list_at 7 ?_; refine q_store 7 29 (.tmp 12) (.tmp 90) 0 b72 (0) 29 [(.slice none 0 0), (.slice none 0 0)] [v66a, v66b] [v66a, v66b] (.agg #[v66a, v66b]) [(2, .pointer (some ⟨b2, 0, none⟩)), (3, .pointer (some ⟨b4, 0, none⟩)), (5, .pointer (some ⟨b8, 0, none⟩)), (12, .pointer (some ⟨b72, 0, none⟩)), (91, .int .i64 ((spanE n e d).2))] hA H rfl rfl (Nat.le_of_ble_eq_true (by kernel_rfl)) rfl (fun v hv => by simp only [List.mem_cons, List.not_mem_nil, or_false] at hv; rcases hv with rfl | rfl; exact (rd_one (H.get 2 rfl)); exact (rd_one (H.get 1 rfl))) fun a w74 H hA hG => ?_
    replace H : Fr _ _ _ [.box b72 29 [v66a, v66b], .ro v66b (((spanE n e d).1).2), .ro v66a (((spanE n e d).1).1), mapN Try.prog 3 b11 m, .box b8 24 [.int .i64 n, ve], .row 99 ve e, .row 3 vd d, .box b4 29 [(.slice none 0 0), (.slice none 0 0)], .box b2 24 [.int .i64 0, (.slice none 0 0)]] := H
    refine q_list 8 1 [] [(2, .pointer (some ⟨b2, 0, none⟩)), (3, .pointer (some ⟨b4, 0, none⟩)), (5, .pointer (some ⟨b8, 0, none⟩)), (12, .pointer (some ⟨b72, 0, none⟩)), (13, .int .i64 ((spanE n e d).2))] ((True) ∧ True) hA H ⟨trivial, trivial⟩ fun a w75 hA H hG => ?_
    refine list_end ?_
    refine hK64 _ _ ?_
    refine go_seq fun K76 hK76 => ?_
    have H0 := H
    have hM0 := H0.keepsL [b2, b4] (by intro b_ hb_; simp only [List.mem_cons, List.not_mem_nil, or_false] at hb_; rcases hb_ with rfl | rfl; all_goals first | exact Fr.in_ 8 rfl rfl | exact Fr.in_ 7 rfl rfl)
    refine region_mix (ButL w75 [b2, b4]) [0, 1, 2, 3, 4, 5] 7 ?_
    replace H := H.drawn; have hD := ButL.drew w75 [b2, b4]
    generalize ({ w75 with drawn := w75.drawn + 1 } : World) = w77 at H hD ⊢
    refine m_take (n := 3) [0, 1, 2, 3] #[true, true, true, true, false, false, false] [(92, .agg #[.int .i64 n, ve]), (93, .agg #[v66a, v66b])] [(2, .pointer (some ⟨b2, 0, none⟩)), (3, .pointer (some ⟨b4, 0, none⟩)), (92, .agg #[.int .i64 n, ve]), (93, .agg #[v66a, v66b]), (95, .bool (decide ((spanE n e d).2 = 0)))] (((Try.prog.info? 24).isSome = true ∧ RowOk (ButL w75 [b2, b4]) b8 (0) (Try.prog.cellsOf 24) #[.int .i64 n, ve]) ∧ ((Try.prog.info? 29).isSome = true ∧ RowOk (ButL w75 [b2, b4]) b72 (0) (Try.prog.cellsOf 29) #[v66a, v66b]) ∧ (True) ∧ (True) ∧ True) hA hD ⟨⟨by kernel_rfl, by exact box_rowC (box_atL H0 [b2, b4] 4 rfl (by intro hq; simp only [List.mem_cons, List.not_mem_nil, or_false] at hq; rcases hq with hq | hq; all_goals first | exact H0.apart 4 8 (by decide) rfl rfl rfl (by rw [hq]; rfl) | exact H0.apart 4 7 (by decide) rfl rfl rfl (by rw [hq]; rfl))) 0 2⟩, ⟨by kernel_rfl, by exact box_rowC (box_atL H0 [b2, b4] 0 rfl (by intro hq; simp only [List.mem_cons, List.not_mem_nil, or_false] at hq; rcases hq with hq | hq; all_goals first | exact H0.apart 0 8 (by decide) rfl rfl rfl (by rw [hq]; rfl) | exact H0.apart 0 7 (by decide) rfl rfl rfl (by rw [hq]; rfl))) 0 2⟩, trivial, trivial, trivial⟩ fun a hA => ?_
    refine m_one 4 ?_; refine q_store 4 24 (.tmp 2) (.tmp 92) 8 b2 (0) 24 [.int .i64 0, (.slice none 0 0)] [.int .i64 n, ve] [.int .i64 n, ve] (.agg #[.int .i64 n, ve]) [(2, .pointer (some ⟨b2, 0, none⟩)), (3, .pointer (some ⟨b4, 0, none⟩)), (93, .agg #[v66a, v66b]), (95, .bool (decide ((spanE n e d).2 = 0)))] hA H rfl rfl (Nat.le_of_ble_eq_true (by kernel_rfl)) rfl (fun v hv => by simp only [List.mem_cons, List.not_mem_nil, or_false] at hv; rcases hv with rfl | rfl; exact rfl; exact (rd_one (H.out 5 rfl))) fun a w78 H hA hG => ?_
    replace H : Fr _ _ _ [.box b72 29 [v66a, v66b], .ro v66b (((spanE n e d).1).2), .ro v66a (((spanE n e d).1).1), mapN Try.prog 3 b11 m, .box b8 24 [.int .i64 n, ve], .row 99 ve e, .row 3 vd d, .box b4 29 [(.slice none 0 0), (.slice none 0 0)], .box b2 24 [.int .i64 n, ve]] := H
    replace hD := hD.grown hG (fun b_ hb_ => by cases hb_; first | exact .inr (by assumption) | exact .inl (by simp))
    refine ⟨fun _ => hD, ?_⟩
    refine m_one 5 ?_; refine q_store 5 29 (.tmp 3) (.tmp 93) 7 b4 (0) 29 [(.slice none 0 0), (.slice none 0 0)] [v66a, v66b] [v66a, v66b] (.agg #[v66a, v66b]) [(2, .pointer (some ⟨b2, 0, none⟩)), (3, .pointer (some ⟨b4, 0, none⟩)), (95, .bool (decide ((spanE n e d).2 = 0)))] hA H rfl rfl (Nat.le_of_ble_eq_true (by kernel_rfl)) rfl (fun v hv => by simp only [List.mem_cons, List.not_mem_nil, or_false] at hv; rcases hv with rfl | rfl; exact (rd_one (H.get 2 rfl)); exact (rd_one (H.get 1 rfl))) fun a w79 H hA hG => ?_
    replace H : Fr _ _ _ [.box b72 29 [v66a, v66b], .ro v66b (((spanE n e d).1).2), .ro v66a (((spanE n e d).1).1), mapN Try.prog 3 b11 m, .box b8 24 [.int .i64 n, ve], .row 99 ve e, .row 3 vd d, .box b4 29 [v66a, v66b], .box b2 24 [.int .i64 n, ve]] := H
    replace hD := hD.grown hG (fun b_ hb_ => by cases hb_; first | exact .inr (by assumption) | exact .inl (by simp))
    refine ⟨fun _ => hD, ?_⟩
    refine m_one 6 ?_; refine q_one 6 [] [(2, .pointer (some ⟨b2, 0, none⟩)), (3, .pointer (some ⟨b4, 0, none⟩)), (4, .bool (decide ((spanE n e d).2 = 0)))] ((True) ∧ True) hA H ⟨trivial, trivial⟩ fun a w80 H hA hG => ?_
    refine ⟨fun h => absurd h (by decide), ?_⟩
    refine m_end ?_
    refine hK76 _ _ ?_
    refine go_ret_ ?_
    refine ret_cells3 2 3 4 24 29 8 7 b2 b4 24 29 [.int .i64 n, ve] [v66a, v66b] #[.int .i64 n, ve] #[v66a, v66b] (.bool (decide ((spanE n e d).2 = 0))) hA H rfl rfl ?_ (ht := ⟨_, Try.underlying24⟩) (ht' := ⟨_, Try.underlying29⟩)
    have hokW : okWh l := fun j hj => hok j (by omega)
    have h1 := (H.give 5 rfl); have h2 := (H.giveRo 2 rfl); have h3 := (H.giveRo 1 rfl)
    have hi9 : i = (l.length : Int) := by omega
    rw [List.take_of_length_le (by omega)] at hn he; rw [hi9] at hd; subst hd; subst hn; subst he
    exact ⟨_, rfl, by rw [wholeR_ok hokW]; exact ⟨_, _, rfl, rd_gp h1, rd_two (x := (spanE (nK l) (eK l) (upto (l.length : Int))).1) h2 h3⟩, H.below⟩

end Go.Proofs.Ytahonnlgkmimlaa

set_option linter.unusedSimpArgs false
set_option linter.unusedVariables false
namespace Go.Proofs.Ytahonnlgkmimlaa
open Go.RowKit

set_option maxRecDepth 100000 in
set_option maxHeartbeats 1000000 in
theorem btarget_any (n : Int) (ve : Value) (E : List (Int × Int)) (d : Int) (w : World) (hn : -9223372036854775808 ≤ n ∧ n ≤ 9223372036854775807) (hE : Rd (· < w.heap.size) w ve E) (h0 : 0 ≤ d) (h1 : d / 2 < (E.length : Int)) (h2 : d ≤ 1000000000000) :
  Calls Try.prog 128 [.agg #[.int .i64 n, ve], .int .i64 d].toArray w (Ans (.int .i64 (headE E d)) w) := by
  refine enter Try.f128 22 Try.func128 fun a hA => ?_
  replace hA := env_sub [(0, .agg #[.int .i64 n, ve]), (1, .int .i64 d)] hA
  have H := Fr.start (org w)
  refine go_seq fun K1 hK1 => ?_
  refine region_list ?_
  refine list_at 0 ?_; refine q_box 0 2 24 (.tmp 0) (.agg #[.int .i64 n, ve]) [.int .i64 n, ve] [(1, .int .i64 d)] hA H fun b2 a w3 H hA hG hge_b2 => ?_
  clear hge_b2
  refine q_list 1 1 [] [(1, .int .i64 d), (2, .pointer (some ⟨b2, 0, none⟩))] ((True) ∧ True) hA H ⟨trivial, trivial⟩ fun a w4 hA H hG => ?_
  refine list_end ?_
  refine hK1 _ _ ?_
  refine go_seq fun K5 hK5 => ?_
  refine go_seq fun K6 hK6 => ?_
  refine q_reg [] [(1, .int .i64 d), (2, .pointer (some ⟨b2, 0, none⟩)), (7, .bool (decide (d % 2 = 0)))] ((True) ∧ (0 ≤ d ∧ 0 < (2 : Int)) ∧ (True) ∧ True) hA H ⟨trivial, ⟨by omega, by omega⟩, trivial, trivial⟩ fun a w7 hA H hG => ?_
  refine hK6 _ _ ?_
  refine go_cond hA (.tmp 7) (decide (d % 2 = 0)) (fun hb8 => ?_) (fun hb8 => ?_)
  · have hhb8 := of_decide_eq_true hb8
    refine go_seq fun K9 hK9 => ?_
    refine q_reg [(9, ve), (14, .int .i64 ((E.getD (d / 2).toNat (0, 0)).2))] [(4, .int .i64 ((E.getD (d / 2).toNat (0, 0)).2))] ((0 < Try.prog.cellsOf 22) ∧ (CellOk (On w7) b2 (0 + 1) (ve)) ∧ (True) ∧ (0 ≤ d ∧ 0 < (2 : Int) ∧ InR .i64 d) ∧ ((Try.prog.info? 99).isSome = true ∧ IdxOk ve (d / 2)) ∧ (0 < Try.prog.cellsOf 3) ∧ (CellOk (On w7) (hdB ve) (hdO ve + (d / 2).toNat * 2 + 1) (.int .i64 ((E.getD (d / 2).toNat (0, 0)).2))) ∧ (True) ∧ True) hA H ⟨by decide +kernel, by exact box_cell H 0 rfl 1, trivial, ⟨by omega, by omega, by omega, by omega⟩, ⟨by kernel_rfl, by exact idx_ok (H.arg hE) (by omega) (by omega)⟩, by decide +kernel, by exact cell_flat (i := d / 2) (H.arg hE) (by omega) (by omega) (0, 0) 1, trivial, trivial⟩ fun a w10 hA H hG => ?_
    refine hK9 _ _ ?_
    refine go_ret_ ?_
    refine ret_one 4 (.int .i64 ((E.getD (d / 2).toNat (0, 0)).2)) hA ?_
    exact ans_i' (by unfold headE eA eB; first | rw [if_pos (by omega)] | rw [if_neg (by omega)]) H.below
  · have hhb8 := of_decide_eq_false hb8
    refine go_skip ?_
    refine hK5 _ _ ?_
    refine go_seq fun K11 hK11 => ?_
    refine q_reg [(16, ve), (21, .int .i64 ((E.getD (d / 2).toNat (0, 0)).1))] [(4, .int .i64 ((E.getD (d / 2).toNat (0, 0)).1))] ((0 < Try.prog.cellsOf 22) ∧ (CellOk (On w7) b2 (0 + 1) (ve)) ∧ (True) ∧ (0 ≤ d ∧ 0 < (2 : Int) ∧ InR .i64 d) ∧ ((Try.prog.info? 99).isSome = true ∧ IdxOk ve (d / 2)) ∧ (0 < Try.prog.cellsOf 3) ∧ (CellOk (On w7) (hdB ve) (hdO ve + (d / 2).toNat * 2 + 0) (.int .i64 ((E.getD (d / 2).toNat (0, 0)).1))) ∧ (True) ∧ True) hA H ⟨by decide +kernel, by exact box_cell H 0 rfl 1, trivial, ⟨by omega, by omega, by omega, by omega⟩, ⟨by kernel_rfl, by exact idx_ok (H.arg hE) (by omega) (by omega)⟩, by decide +kernel, by exact cell_flat (i := d / 2) (H.arg hE) (by omega) (by omega) (0, 0) 0, trivial, trivial⟩ fun a w12 hA H hG => ?_
    refine hK11 _ _ ?_
    refine go_ret_ ?_
    refine ret_one 4 (.int .i64 ((E.getD (d / 2).toNat (0, 0)).1)) hA ?_
    exact ans_i' (by unfold headE eA eB; first | rw [if_pos (by omega)] | rw [if_neg (by omega)]) H.below

set_option maxRecDepth 100000 in
set_option maxHeartbeats 1000000 in
theorem index_any (v : Value) (l : List Int) (x : Int) (w : World) (hl : Rd (· < w.heap.size) w v l) :
  Calls Try.prog 143 [v, .int .i64 x].toArray w (Ans (.int .i64 (idxL l x)) w) := by
  have hlen := rd_len hl
  refine enter Try.f143 19 Try.func143 fun a hA => ?_
  replace hA := env_sub [(0, v), (1, .int .i64 x)] hA
  have H := Fr.start (org w)
  refine go_seq fun K1 hK1 => ?_
  refine q_reg [] [(0, v), (1, .int .i64 x)] ((True) ∧ True) hA H ⟨trivial, trivial⟩ fun a w2 hA H hG => ?_
  refine hK1 _ _ ?_
  refine go_seq fun K3 hK3 => ?_
  refine go_seq fun K4 hK4 => ?_
  refine q_reg [(7, .int .i64 (l.length : Int))] [(0, v), (1, .int .i64 x), (7, .int .i64 (l.length : Int)), (8, .int .i64 0)] ((True) ∧ (LenOk v (l.length : Int)) ∧ (True) ∧ True) hA H ⟨trivial, by exact len_ok (H.arg hl), trivial, trivial⟩ fun a w5 hA H hG => ?_
  refine hK4 _ _ ?_
  refine go_block 0 ?_
  refine go_loop_ (Int) (fun x_ a W => (fun (i : Int) => EnvOk 19 a (keepEnv [(0, v), (1, .int .i64 x), (7, .int .i64 (l.length : Int)), (8, .int .i64 i)]) ∧ (∃ S, Fr (org w) W S []) ∧ 0 ≤ i ∧ ∀ j : Nat, (j : Int) < i → l.getD j 0 ≠ x) x_) (fun x_ => (fun (i : Int) => ((l.length : Int) - i).toNat) x_) (0) ?_ (fun i a w7 hI => ?_)
  · (try dsimp only); exact ⟨env_sub _ hA, ⟨_, H⟩, by omega, fun j hj => by omega⟩
  obtain ⟨hA, ⟨S, H⟩, h0, hok⟩ := hI
  try dsimp only at h0 hok
  refine go_seq fun K8 hK8 => ?_
  refine q_reg [] [(0, v), (1, .int .i64 x), (7, .int .i64 (l.length : Int)), (8, .int .i64 i), (9, .bool (decide (i < (l.length : Int))))] ((True) ∧ True) hA H ⟨trivial, trivial⟩ fun a w9 hA H hG => ?_
  refine hK8 _ _ ?_
  refine go_seq fun K10 hK10 => ?_
  refine go_cond hA (.tmp 9) (decide (i < (l.length : Int))) (fun hb11 => ?_) (fun hb11 => ?_)
  · have hhb11 := of_decide_eq_true hb11
    refine go_skip ?_
    refine hK10 _ _ ?_
    refine go_seq fun K12 hK12 => ?_
    refine go_block 1 ?_
    refine go_seq fun K13 hK13 => ?_
    refine q_reg [] [(0, v), (1, .int .i64 x), (5, .int .i64 i), (7, .int .i64 (l.length : Int)), (8, .int .i64 i)] ((True) ∧ (True) ∧ True) hA H ⟨trivial, trivial, trivial⟩ fun a w14 hA H hG => ?_
    refine hK13 _ _ ?_
    refine go_seq fun K15 hK15 => ?_
    refine q_reg [(15, .int .i64 (l.getD i.toNat 0))] [(0, v), (1, .int .i64 x), (5, .int .i64 i), (7, .int .i64 (l.length : Int)), (8, .int .i64 i), (16, .bool (decide (x = (l.getD i.toNat 0))))] ((True) ∧ (True) ∧ (True) ∧ ((Try.prog.info? 3).isSome = true ∧ IdxOk v i) ∧ (CellOk (On w14) (hdB v) (hdO v + i.toNat * 1) (.int .i64 (l.getD i.toNat 0))) ∧ (True) ∧ True) hA H ⟨trivial, trivial, trivial, ⟨by kernel_rfl, by exact idx_ok (H.arg hl) (by omega) (by omega)⟩, by exact cell_flat (i := i) (H.arg hl) (by omega) (by omega) 0 0, trivial, trivial⟩ fun a w16 hA H hG => ?_
    refine hK15 _ _ ?_
    refine go_cond hA (.tmp 16) (decide (x = (l.getD i.toNat 0))) (fun hb17 => ?_) (fun hb17 => ?_)
    · have hhb17 := of_decide_eq_true hb17
      refine go_seq fun K18 hK18 => ?_
      refine q_reg [] [(4, .int .i64 i)] ((True) ∧ (True) ∧ True) hA H ⟨trivial, trivial, trivial⟩ fun a w19 hA H hG => ?_
      refine hK18 _ _ ?_
      refine go_ret_ ?_
      refine ret_one 4 (.int .i64 i) hA ?_
      exact ans_i' ((idxL_T h0 (by omega) hhb17.symm hok).symm) H.below
    · have hhb17 := of_decide_eq_false hb17
      refine go_skip ?_
      refine hK12 _ _ ?_
      refine q_reg [] [(0, v), (1, .int .i64 x), (7, .int .i64 (l.length : Int)), (8, .int .i64 (i + 1))] ((InR .i64 (i + 1)) ∧ (True) ∧ True) hA H ⟨⟨by omega, by omega⟩, trivial, trivial⟩ fun a w20 hA H hG => ?_
      refine ⟨(i + 1), ⟨env_sub _ hA, ⟨_, H⟩, ?_⟩, ?_⟩
      · (try dsimp only); exact ⟨by omega, fun j hj => if e : (j : Int) = i then (by rw [show j = i.toNat by omega]; exact fun q => hhb17 q.symm) else hok j (by omega)⟩
      · (try dsimp only); omega
  · have hhb11 := of_decide_eq_false hb11
    refine go_exit 0 ?_
    refine hK3 _ _ ?_
    refine go_seq fun K21 hK21 => ?_
    refine q_reg [] [(4, .int .i64 (-1))] ((True) ∧ True) hA H ⟨trivial, trivial⟩ fun a w22 hA H hG => ?_
    refine hK21 _ _ ?_
    refine go_ret_ ?_
    refine ret_one 4 (.int .i64 (-1)) hA ?_
    exact ans_i' ((idxL_F (fun j hj => hok j (by omega))).symm) H.below

end Go.Proofs.Ytahonnlgkmimlaa

set_option linter.unusedSimpArgs false
set_option linter.unusedVariables false
namespace Go.Proofs.Ytahonnlgkmimlaa
open Go.RowKit

set_option maxRecDepth 100000 in
set_option maxHeartbeats 1000000 in
theorem take_any (n : Int) (ve : Value) (E : List (Int × Int)) (L : List Int) (vd : Value) (DL : List (List Int)) (fb mb lb pb : Nat) (o : Orig) (S : Stab) (s : Deep.St) (ev : Value) (ins : List (Int × Value × List Int)) (tl : List Res) (pre S0 : List Int) (e : Int) (w : World) (hE : Rd (· < o.w.heap.size) o.w ve E) (hH : Fr o w S (finR n ve vd DL fb mb lb pb s ev ins tl)) (hs : s.stk = pre ++ e :: S0) (hp : e ∉ pre) (hb : Deep.Bd s) (hi : insOf ins = s.ins) :
  Calls Try.prog 129 [.pointer (some ⟨fb, 0, none⟩), .int .i64 e].toArray w (FinQ n ve vd DL fb mb lb pb ({ s with stk := pre, blk := s.blk ++ [e :: S0], ins := s.ins ++ [Deep.key (e :: S0)] }) tl o w) := by
  have hil : ins.length ≤ 1000000000 := by have := hb.ins; rw [← hi, List.length_map] at this; exact this
  have hsl0 : s.stk.length ≤ 1000000000 := by have := hb.len; rw [List.length_append] at this; omega
  have hx : idxL s.stk e = (pre.length : Int) := by rw [hs]; exact idxL_at hp
  have hlen9 : S0.length + 1 ≤ 1000000000 := by rw [hs, List.length_append, List.length_cons] at hsl0; omega
  refine enter Try.f129 38 Try.func129 fun a hA => ?_
  replace hA := env_sub [(0, .pointer (some ⟨fb, 0, none⟩)), (1, .int .i64 e)] hA
  have H := hH
  refine go_seq fun K1 hK1 => ?_
  refine q_reg [(9, ev), (11, .int .i64 (idxL s.stk e))] [(0, .pointer (some ⟨fb, 0, none⟩)), (4, .int .i64 (idxL s.stk e))] ((True) ∧ (True) ∧ (0 < Try.prog.cellsOf 27) ∧ (CellOk (On w) fb (0 + 6) (ev)) ∧ (True) ∧ (Callable Try.prog 143 ∧ CallOk Try.prog (On w) 143 [ev, .int .i64 e].toArray (.int .i64 (idxL s.stk e))) ∧ (True) ∧ True) hA H ⟨trivial, trivial, by decide +kernel, by exact box_cell H 0 rfl 6, trivial, ⟨callable_of, callOk_of fun w hw => by exact index_any ev s.stk e w (((H.on hw).out 3 rfl))⟩, trivial, trivial⟩ fun a w2 hA H hG => ?_
  refine hK1 _ _ ?_
  refine go_seq fun K3 hK3 => ?_
  refine region_list ?_
  obtain ⟨u, _, hu2, hu3⟩ := reslice (P := Try.prog) (H.out 3 rfl) pre.length s.stk.length (by rw [hs, List.length_append]; omega) (Nat.le_refl _) 27 Try.underlying27 (by kernel_rfl) (by kernel_rfl)
  have hu4 : Rd (· < w2.heap.size) w2 u (e :: S0) := by rw [List.take_of_length_le (by rw [List.length_drop]; exact Nat.le_refl _), hs, List.drop_left] at hu3; exact hu3
  refine q_list 0 6 [(15, ev), (17, u)] [(0, .pointer (some ⟨fb, 0, none⟩)), (4, .int .i64 (idxL s.stk e)), (17, u)] ((True) ∧ (True) ∧ (0 < Try.prog.cellsOf 27) ∧ (CellOk (On w2) fb (0 + 6) (ev)) ∧ (True) ∧ (∀ w, (Instr.sliceAt 27 ev (some (.int .i64 (idxL s.stk e))) none none).run Try.prog w = .ok u w) ∧ True) hA H ⟨trivial, trivial, by decide +kernel, by exact box_cell H 0 rfl 6, trivial, fun w => by rw [hx]; exact hu2 rfl .i64 w, trivial⟩ fun a w4 hA H hG => ?_
  replace hu4 := rd_on hu4 hG
  refine list_at 6 ?_; refine q_any 6 18 105 #[.tmp 17] #[27] [u] _ [(0, .pointer (some ⟨fb, 0, none⟩)), (4, .int .i64 (idxL s.stk e))] hA (clone_row H hu4 (by (try simp only [List.length_cons]); omega)) fun v5 a w6 hR7 hA => ?_
  obtain ⟨H, hG⟩ := hR7
  refine q_list 7 1 [] [(0, .pointer (some ⟨fb, 0, none⟩)), (4, .int .i64 (idxL s.stk e)), (5, v5)] ((True) ∧ True) hA H ⟨trivial, trivial⟩ fun a w9 hA H hG => ?_
  refine list_end ?_
  refine hK3 _ _ ?_
  refine go_seq fun K10 hK10 => ?_
  refine region_list ?_
  obtain ⟨u2, hq1, hq2, hq3⟩ := H.cut (P := Try.prog) 4 rfl pre.length (by rw [hs, List.length_append]; omega) (by rw [hs, List.length_append, List.length_cons]; omega) (t := 27) Try.underlying27 (by kernel_rfl)
  rw [show s.stk.take pre.length = pre by rw [hs]; exact List.take_left] at hq3; replace H := hq3
  replace H : Fr _ _ _ (.row 3 v5 (e :: S0) :: .box fb 106 [.int .i64 n, ve, vd, (.slice (some ⟨mb, 0, none⟩) n.toNat n.toNat), (.slice (some ⟨lb, 0, none⟩) n.toNat n.toNat), .int .i64 s.cnt, ev, (.map (some pb))] :: .box mb 3 (arrV n fun j => .int .i64 (s.met j)) :: .box lb 3 (arrV n fun j => .int .i64 (s.low j)) :: .row 3 u2 pre :: mapR Try.prog 3 pb ins :: .ro vd DL :: tl) := H
  refine q_list 0 9 [(23, ev), (25, u2)] [(0, .pointer (some ⟨fb, 0, none⟩)), (5, v5), (25, u2), (27, .pointer (some ⟨fb, 0 + 6, none⟩))] ((True) ∧ (True) ∧ (True) ∧ (0 < Try.prog.cellsOf 27) ∧ (CellOk (On w9) fb (0 + 6) (ev)) ∧ (True) ∧ (∀ w, (Instr.sliceAt 27 ev none (some (.int .i64 (idxL s.stk e))) none).run Try.prog w = .ok u2 w) ∧ (True) ∧ (0 < Try.prog.cellsOf 27) ∧ True) hA H ⟨trivial, trivial, trivial, by decide +kernel, by exact box_cell H 1 rfl 6, trivial, fun w => by rw [hx]; exact hq1 .i64 w, trivial, by decide +kernel, trivial⟩ fun a w11 hA H hG => ?_
  refine list_at 9 ?_; refine q_store 9 27 (.tmp 27) (.tmp 25) 1 fb (0 + 6) 106 [.int .i64 n, ve, vd, (.slice (some ⟨mb, 0, none⟩) n.toNat n.toNat), (.slice (some ⟨lb, 0, none⟩) n.toNat n.toNat), .int .i64 s.cnt, ev, (.map (some pb))] [u2] [.int .i64 n, ve, vd, (.slice (some ⟨mb, 0, none⟩) n.toNat n.toNat), (.slice (some ⟨lb, 0, none⟩) n.toNat n.toNat), .int .i64 s.cnt, u2, (.map (some pb))] u2 [(0, .pointer (some ⟨fb, 0, none⟩)), (5, v5)] hA H rfl (one_cells (rd_one (H.out 4 rfl))) (Nat.le_of_ble_eq_true (by kernel_rfl)) rfl (fun v hv => by simp only [List.mem_cons, List.not_mem_nil, or_false] at hv; rcases hv with rfl; exact (rd_one (H.out 4 rfl))) fun a w12 H hA hG => ?_
  replace H : Fr _ _ _ (.row 3 v5 (e :: S0) :: .box fb 106 [.int .i64 n, ve, vd, (.slice (some ⟨mb, 0, none⟩) n.toNat n.toNat), (.slice (some ⟨lb, 0, none⟩) n.toNat n.toNat), .int .i64 s.cnt, u2, (.map (some pb))] :: .box mb 3 (arrV n fun j => .int .i64 (s.met j)) :: .box lb 3 (arrV n fun j => .int .i64 (s.low j)) :: .row 3 u2 pre :: mapR Try.prog 3 pb ins :: .ro vd DL :: tl) := H
  refine list_end ?_
  refine hK10 _ _ ?_
  refine go_seq fun K13 hK13 => ?_
  refine region_list ?_
  refine q_list 0 1 [] [(0, .pointer (some ⟨fb, 0, none⟩)), (5, v5), (28, v5)] ((True) ∧ True) hA H ⟨trivial, trivial⟩ fun a w14 hA H hG => ?_
  refine list_at 1 ?_; refine q_any 1 29 74 #[.tmp 28] #[27] [v5] _ [(0, .pointer (some ⟨fb, 0, none⟩)), (5, v5)] hA (by exact sort_row H 0 rfl (by first | omega | (simp only [List.length_mergeSort]; omega) | (simp only [List.length_cons]; omega))) fun v15 a w16 hR17 hA => ?_
  obtain ⟨H, hG⟩ := hR17
  replace H : Fr _ _ _ (.row 3 v5 (sortL (e :: S0)) :: .box fb 106 [.int .i64 n, ve, vd, (.slice (some ⟨mb, 0, none⟩) n.toNat n.toNat), (.slice (some ⟨lb, 0, none⟩) n.toNat n.toNat), .int .i64 s.cnt, u2, (.map (some pb))] :: .box mb 3 (arrV n fun j => .int .i64 (s.met j)) :: .box lb 3 (arrV n fun j => .int .i64 (s.low j)) :: .row 3 u2 pre :: mapR Try.prog 3 pb ins :: .ro vd DL :: tl) := H
  refine list_end ?_
  refine hK13 _ _ ?_
  obtain ⟨S, _, H⟩ := H.freeze 0 rfl
  replace H : Fr _ _ _ (.ro v5 (sortL (e :: S0)) :: .box fb 106 [.int .i64 n, ve, vd, (.slice (some ⟨mb, 0, none⟩) n.toNat n.toNat), (.slice (some ⟨lb, 0, none⟩) n.toNat n.toNat), .int .i64 s.cnt, u2, (.map (some pb))] :: .box mb 3 (arrV n fun j => .int .i64 (s.met j)) :: .box lb 3 (arrV n fun j => .int .i64 (s.low j)) :: .row 3 u2 pre :: mapR Try.prog 3 pb ins :: .ro vd DL :: tl) := H
  have hk8 : (sortL (e :: S0)).getD (0 : Int).toNat 0 ∈ sortL (e :: S0) := mem_getD.2 ⟨0, by rw [List.length_mergeSort]; simp, rfl⟩
  have hk9 := hb.mem _ (List.mem_append_right _ (by rw [hs]; exact List.mem_append_right _ (mem_sortL.1 hk8)))
  have hsl : (sortL (e :: S0)).length = S0.length + 1 := by rw [List.length_mergeSort]; rfl
  have H0 := H
  have hM0 := H0.keeps none (.inl rfl)
  refine region_mix (But w16 none) [0, 1, 2, 3, 4, 5, 6, 7] 9 ?_
  replace H := H.drawn; have hD := But.drew w16 none
  generalize ({ w16 with drawn := w16.drawn + 1 } : World) = w19 at H hD ⊢
  refine m_take (n := 1) [0, 1, 2, 3, 4, 5, 6, 7] #[true, true, true, true, true, true, true, true, false] [(33, (.map (some pb))), (36, .int .i64 ((sortL (e :: S0)).getD (0 : Int).toNat 0))] [(33, (.map (some pb))), (36, .int .i64 ((sortL (e :: S0)).getD (0 : Int).toNat 0)), (37, v5)] ((True) ∧ (True) ∧ (0 < Try.prog.cellsOf 104) ∧ (CellOk (But w16 none) fb (0 + 7) ((.map (some pb)))) ∧ (True) ∧ ((Try.prog.info? 3).isSome = true ∧ IdxOk v5 0) ∧ (CellOk (But w16 none) (hdB v5) (hdO v5 + (0 : Int).toNat * 1) (.int .i64 ((sortL (e :: S0)).getD (0 : Int).toNat 0))) ∧ (True) ∧ True) hA hD ⟨trivial, trivial, by decide +kernel, by exact box_cellC (box_atC H0 none 1 rfl (fun e => by cases e)) 7, trivial, ⟨by kernel_rfl, by exact idx_ok (H0.getT 0 rfl) (by omega) (by omega)⟩, by exact cell_flatC hM0 (i := (0 : Int)) (H0.getT 0 rfl) (by omega) (by omega) 0 0, trivial, trivial⟩ fun a hA => ?_
  refine m_one 8 ?_; refine q_mapUpdate 8 104 (.tmp 33) (.tmp 36) (.tmp 37) 5 pb ins ((sortL (e :: S0)).getD (0 : Int).toNat 0) v5 (sortL (e :: S0)) [] hA H rfl (H.getS 0 rfl) ⟨by omega, by omega⟩ (by (try simp only [List.length_append, List.length_cons, List.length_nil]); omega) Try.underlying104 Try.underlying3 fun a w20 H hA hG => ?_
  replace H : Fr _ _ _ (.ro v5 (sortL (e :: S0)) :: .box fb 106 [.int .i64 n, ve, vd, (.slice (some ⟨mb, 0, none⟩) n.toNat n.toNat), (.slice (some ⟨lb, 0, none⟩) n.toNat n.toNat), .int .i64 s.cnt, u2, (.map (some pb))] :: .box mb 3 (arrV n fun j => .int .i64 (s.met j)) :: .box lb 3 (arrV n fun j => .int .i64 (s.low j)) :: .row 3 u2 pre :: mapR Try.prog 3 (α := List (Int)) pb (ins ++ [(((sortL (e :: S0)).getD (0 : Int).toNat 0), v5, sortL (e :: S0))]) :: .ro vd DL :: tl) := H
  refine ⟨fun h => absurd h (by decide), ?_⟩
  refine m_end ?_
  refine ret_noneN (P := Try.prog) (fn := Try.f129) (R := (FinQ n ve vd DL fb mb lb pb ({ s with stk := pre, blk := s.blk ++ [e :: S0], ins := s.ins ++ [Deep.key (e :: S0)] }) tl o w)) hA ?_
  replace H := H.drop 0
  refine ⟨rfl, _, _, _, H, ?_⟩
  show List.map _ (_ ++ _) = _ ++ _; rw [List.map_append]; refine congr (congrArg _ hi) ?_
  show [(_, _)] = [Deep.key _]; unfold Deep.key; rw [head_getD]; rfl

end Go.Proofs.Ytahonnlgkmimlaa

set_option linter.unusedSimpArgs false
set_option linter.unusedVariables false
namespace Go.Proofs.Ytahonnlgkmimlaa
open Go.RowKit

set_option maxRecDepth 100000 in
set_option maxHeartbeats 4000000 in
theorem visit_step (n : Int) (ve : Value) (E : List (Int × Int)) (L : List Int) (vd : Value) (DL : List (List Int)) (fb mb lb pb : Nat) (h : Nat) (o : Orig) (S : Stab) (s : Deep.St) (ev : Value) (ins : List (Int × Value × List Int)) (tl : List Res) (s' : Deep.St) (v via : Int) (w : World) (hr : rightE n E = 0) (hL : risesP L (E.length : Int)) (hE : Rd (· < o.w.heap.size) o.w ve E) (hDL : ∀ x, 0 ≤ x → x < n → DL.getD x.toNat [] = dartsL E L x) (hDLn : (DL.length : Int) = n) (ih : ∀ (w : World) (S : Stab) (s s' : Deep.St) (v via : Int) (ev : Value) (ins : List (Int × Value × List Int)) (tl : List Res), Deep.Visit (dartsL E L) (headE E) h v via s s' → Deep.Bd s' → 0 ≤ s.cnt → 0 ≤ v → v < n → Fr o w S (finR n ve vd DL fb mb lb pb s ev ins tl) → insOf ins = s.ins → Calls Try.prog 102 [.pointer (some ⟨fb, 0, none⟩), .int .i64 v, .int .i64 via].toArray w (FinQ n ve vd DL fb mb lb pb s' tl o w)) (hv : Deep.Visit (dartsL E L) (headE E) (h + 1) v via s s') (hb : Deep.Bd s') (hc0 : 0 ≤ s.cnt) (hv0 : 0 ≤ v) (hv1 : v < n) (hH : Fr o w S (finR n ve vd DL fb mb lb pb s ev ins tl)) (hi : insOf ins = s.ins) :
  Calls Try.prog 102 [.pointer (some ⟨fb, 0, none⟩), .int .i64 v, .int .i64 via].toArray w (FinQ n ve vd DL fb mb lb pb s' tl o w) := by
  have hr9 := rightE_0 hr
  have hsb := (Deep.visit_bd (h + 1) _ _ _ _ hv hb).cnt
  refine enter Try.f102 182 Try.func102 fun a hA => ?_
  replace hA := env_sub [(0, .pointer (some ⟨fb, 0, none⟩)), (1, .int .i64 v), (2, .int .i64 via)] hA
  have H := hH
  refine go_seq fun K1 hK1 => ?_
  refine region_list ?_
  refine q_list 0 7 [(13, .int .i64 s.cnt)] [(0, .pointer (some ⟨fb, 0, none⟩)), (1, .int .i64 v), (2, .int .i64 via), (14, .int .i64 (s.cnt + 1)), (16, .pointer (some ⟨fb, 0 + 5, none⟩))] ((True) ∧ (True) ∧ (0 < Try.prog.cellsOf 3) ∧ (CellOk (On w) fb (0 + 5) (.int .i64 s.cnt)) ∧ (InR .i64 (s.cnt + 1)) ∧ (True) ∧ (0 < Try.prog.cellsOf 3) ∧ True) hA H ⟨trivial, trivial, by decide +kernel, by exact box_cell H 0 rfl 5, ⟨by omega, by omega⟩, trivial, by decide +kernel, trivial⟩ fun a w2 hA H hG => ?_
  refine list_at 7 ?_; refine q_store 7 3 (.tmp 16) (.tmp 14) 0 fb (0 + 5) 106 [.int .i64 n, ve, vd, (.slice (some ⟨mb, 0, none⟩) n.toNat n.toNat), (.slice (some ⟨lb, 0, none⟩) n.toNat n.toNat), .int .i64 s.cnt, ev, (.map (some pb))] [.int .i64 (s.cnt + 1)] [.int .i64 n, ve, vd, (.slice (some ⟨mb, 0, none⟩) n.toNat n.toNat), (.slice (some ⟨lb, 0, none⟩) n.toNat n.toNat), .int .i64 (s.cnt + 1), ev, (.map (some pb))] (.int .i64 (s.cnt + 1)) [(0, .pointer (some ⟨fb, 0, none⟩)), (1, .int .i64 v), (2, .int .i64 via)] hA H rfl rfl (Nat.le_of_ble_eq_true (by kernel_rfl)) rfl (fun v hv => by simp only [List.mem_cons, List.not_mem_nil, or_false] at hv; rcases hv with rfl; exact rfl) fun a w3 H hA hG => ?_
  replace H : Fr _ _ _ (.box fb 106 [.int .i64 n, ve, vd, (.slice (some ⟨mb, 0, none⟩) n.toNat n.toNat), (.slice (some ⟨lb, 0, none⟩) n.toNat n.toNat), .int .i64 (s.cnt + 1), ev, (.map (some pb))] :: .box mb 3 (arrV n fun j => .int .i64 (s.met j)) :: .box lb 3 (arrV n fun j => .int .i64 (s.low j)) :: .row 3 ev s.stk :: mapR Try.prog 3 pb ins :: .ro vd DL :: tl) := H
  refine list_end ?_
  refine hK1 _ _ ?_
  refine go_seq fun K4 hK4 => ?_
  have H0 := H
  have hM0 := H0.keeps (some mb) (.inr ⟨_, List.mem_of_getElem? (i := 1) rfl, rfl⟩)
  refine region_mix (But w3 (some mb)) [0, 1, 2, 3, 4, 5, 6, 7, 8, 9, 10, 11, 12, 13, 14, 15, 16, 17, 18, 19] 22 ?_
  replace H := H.drawn; have hD := But.drew w3 (some mb)
  generalize ({ w3 with drawn := w3.drawn + 1 } : World) = w5 at H hD ⊢
  refine m_take (n := 3) [0, 1, 2, 3, 4, 5, 6, 7, 8, 9, 10, 11, 12, 13, 14, 15, 16, 17, 18] #[true, true, true, true, true, true, true, true, true, true, true, true, true, true, true, true, true, true, true, false, false, false] [(20, (.slice (some ⟨mb, 0, none⟩) n.toNat n.toNat)), (25, (.slice (some ⟨lb, 0, none⟩) n.toNat n.toNat)), (30, .int .i64 (s.cnt + 1)), (34, .int .i64 (s.cnt + 1))] [(0, .pointer (some ⟨fb, 0, none⟩)), (1, .int .i64 v), (2, .int .i64 via), (25, (.slice (some ⟨lb, 0, none⟩) n.toNat n.toNat)), (26, .int .i64 v), (30, .int .i64 (s.cnt + 1)), (34, .int .i64 (s.cnt + 1)), (35, .pointer (some ⟨mb, 0 + v.toNat * 1, none⟩))] ((True) ∧ (True) ∧ (0 < Try.prog.cellsOf 27) ∧ (CellOk (But w3 (some mb)) fb (0 + 3) ((.slice (some ⟨mb, 0, none⟩) n.toNat n.toNat))) ∧ (True) ∧ (True) ∧ (True) ∧ (0 < Try.prog.cellsOf 27) ∧ (CellOk (But w3 (some mb)) fb (0 + 4) ((.slice (some ⟨lb, 0, none⟩) n.toNat n.toNat))) ∧ (True) ∧ (True) ∧ (True) ∧ (0 < Try.prog.cellsOf 3) ∧ (CellOk (But w3 (some mb)) fb (0 + 5) (.int .i64 (s.cnt + 1))) ∧ (True) ∧ (True) ∧ (0 < Try.prog.cellsOf 3) ∧ (CellOk (But w3 (some mb)) fb (0 + 5) (.int .i64 (s.cnt + 1))) ∧ ((Try.prog.info? 3).isSome = true ∧ IdxOk (.slice (some ⟨mb, 0, none⟩) n.toNat n.toNat) v) ∧ True) hA hD ⟨trivial, trivial, by decide +kernel, by exact box_cellC (box_atC H0 (some mb) 0 rfl (H0.apart 0 1 (by decide) rfl rfl rfl)) 3, trivial, trivial, trivial, by decide +kernel, by exact box_cellC (box_atC H0 (some mb) 0 rfl (H0.apart 0 1 (by decide) rfl rfl rfl)) 4, trivial, trivial, trivial, by decide +kernel, by exact box_cellC (box_atC H0 (some mb) 0 rfl (H0.apart 0 1 (by decide) rfl rfl rfl)) 5, trivial, trivial, by decide +kernel, by exact box_cellC (box_atC H0 (some mb) 0 rfl (H0.apart 0 1 (by decide) rfl rfl rfl)) 5, ⟨by kernel_rfl, arr_idx (by omega) (by omega)⟩, trivial⟩ fun a hA => ?_
  refine m_one 19 ?_; refine q_store 19 3 (.tmp 35) (.tmp 30) 1 mb (0 + v.toNat * 1) 3 ((arrV n fun j => .int .i64 (s.met j))) [.int .i64 (s.cnt + 1)] ((arrV n fun j => .int .i64 ((Deep.upd s.met v (s.cnt + 1)) j))) (.int .i64 (s.cnt + 1)) [(0, .pointer (some ⟨fb, 0, none⟩)), (1, .int .i64 v), (2, .int .i64 via), (25, (.slice (some ⟨lb, 0, none⟩) n.toNat n.toNat)), (26, .int .i64 v), (34, .int .i64 (s.cnt + 1))] hA H rfl rfl (arr_room (by omega) (by omega)) (arr_set (by omega) (by omega) (congrArg (Value.int .i64) (Deep.upd_same _ _ _)) (fun j hj => congrArg (Value.int .i64) (Deep.upd_ne _ _ hj))) (fun v hv => by simp only [List.mem_cons, List.not_mem_nil, or_false] at hv; rcases hv with rfl; exact rfl) fun a w6 H hA hG => ?_
  replace H : Fr _ _ _ (.box fb 106 [.int .i64 n, ve, vd, (.slice (some ⟨mb, 0, none⟩) n.toNat n.toNat), (.slice (some ⟨lb, 0, none⟩) n.toNat n.toNat), .int .i64 (s.cnt + 1), ev, (.map (some pb))] :: .box mb 3 (arrV n fun j => .int .i64 ((Deep.upd s.met v (s.cnt + 1)) j)) :: .box lb 3 (arrV n fun j => .int .i64 (s.low j)) :: .row 3 ev s.stk :: mapR Try.prog 3 pb ins :: .ro vd DL :: tl) := H
  replace hD := hD.grown hG (fun b hb => .inl hb.symm)
  refine ⟨fun _ => hD, ?_⟩
  refine m_one 20 ?_; refine q_one 20 [] [(0, .pointer (some ⟨fb, 0, none⟩)), (1, .int .i64 v), (2, .int .i64 via), (34, .int .i64 (s.cnt + 1)), (36, .pointer (some ⟨lb, 0 + v.toNat * 1, none⟩))] (((Try.prog.info? 3).isSome = true ∧ IdxOk (.slice (some ⟨lb, 0, none⟩) n.toNat n.toNat) v) ∧ True) hA H ⟨⟨by kernel_rfl, arr_idx (by omega) (by omega)⟩, trivial⟩ fun a w7 H hA hG => ?_
  refine ⟨fun h => absurd h (by decide), ?_⟩
  refine m_one 21 ?_; refine q_store 21 3 (.tmp 36) (.tmp 34) 2 lb (0 + v.toNat * 1) 3 ((arrV n fun j => .int .i64 (s.low j))) [.int .i64 (s.cnt + 1)] ((arrV n fun j => .int .i64 ((Deep.upd s.low v (s.cnt + 1)) j))) (.int .i64 (s.cnt + 1)) [(0, .pointer (some ⟨fb, 0, none⟩)), (1, .int .i64 v), (2, .int .i64 via)] hA H rfl rfl (arr_room (by omega) (by omega)) (arr_set (by omega) (by omega) (congrArg (Value.int .i64) (Deep.upd_same _ _ _)) (fun j hj => congrArg (Value.int .i64) (Deep.upd_ne _ _ hj))) (fun v hv => by simp only [List.mem_cons, List.not_mem_nil, or_false] at hv; rcases hv with rfl; exact rfl) fun a w8 H hA hG => ?_
  replace H : Fr _ _ _ (.box fb 106 [.int .i64 n, ve, vd, (.slice (some ⟨mb, 0, none⟩) n.toNat n.toNat), (.slice (some ⟨lb, 0, none⟩) n.toNat n.toNat), .int .i64 (s.cnt + 1), ev, (.map (some pb))] :: .box mb 3 (arrV n fun j => .int .i64 ((Deep.upd s.met v (s.cnt + 1)) j)) :: .box lb 3 (arrV n fun j => .int .i64 ((Deep.upd s.low v (s.cnt + 1)) j)) :: .row 3 ev s.stk :: mapR Try.prog 3 pb ins :: .ro vd DL :: tl) := H
  refine ⟨fun h => absurd h (by decide), ?_⟩
  refine m_end ?_
  refine hK4 _ _ ?_
  refine go_seq fun K9 hK9 => ?_
  obtain ⟨u, huc, hur⟩ := cell_sliceC (C := On w8) H.keepsS (H.getS 5 rfl) v
  have hu := hur hv0 (by omega)
  rw [hDL v hv0 hv1] at hu
  have hul := rd_len hu
  replace H := H.ro hu
  replace H : Fr _ _ _ (.box fb 106 [.int .i64 n, ve, vd, (.slice (some ⟨mb, 0, none⟩) n.toNat n.toNat), (.slice (some ⟨lb, 0, none⟩) n.toNat n.toNat), .int .i64 (s.cnt + 1), ev, (.map (some pb))] :: .box mb 3 (arrV n fun j => .int .i64 ((Deep.upd s.met v (s.cnt + 1)) j)) :: .box lb 3 (arrV n fun j => .int .i64 ((Deep.upd s.low v (s.cnt + 1)) j)) :: .row 3 ev s.stk :: mapR Try.prog 3 pb ins :: .ro vd DL :: .ro u (dartsL E L v) :: tl) := H.sink 1 6
  refine q_reg [(40, vd), (43, u), (44, .int .i64 ((dartsL E L v).length : Int))] [(0, .pointer (some ⟨fb, 0, none⟩)), (1, .int .i64 v), (2, .int .i64 via), (43, u), (44, .int .i64 ((dartsL E L v).length : Int)), (45, .int .i64 0)] ((True) ∧ (True) ∧ (0 < Try.prog.cellsOf 67) ∧ (CellOk (On w8) fb (0 + 2) (vd)) ∧ (True) ∧ ((Try.prog.info? 27).isSome = true ∧ IdxOk vd v) ∧ (CellOk (On w8) (hdB vd) (hdO vd + v.toNat * 1) u) ∧ (LenOk u ((dartsL E L v).length : Int)) ∧ (True) ∧ True) hA H ⟨trivial, trivial, by decide +kernel, by exact box_cell H 0 rfl 2, trivial, ⟨by kernel_rfl, by exact idx_ok (H.get 5 rfl) (by omega) (by omega)⟩, by exact huc hv0 (by omega), by exact len_ok (H.get 6 rfl), trivial, trivial⟩ fun a w10 hA H hG => ?_
  refine hK9 _ _ ?_
  refine go_block 0 ?_
  refine go_loop_ (Int × Deep.St × Value × List (Int × Value × List Int)) (fun x_ a W => (fun (i : Int) (t : Deep.St) (eu : Value) (iu : List (Int × Value × List Int)) => EnvOk 182 a (keepEnv [(0, .pointer (some ⟨fb, 0, none⟩)), (1, .int .i64 v), (2, .int .i64 via), (43, u), (44, .int .i64 ((dartsL E L v).length : Int)), (45, .int .i64 i)]) ∧ (∃ S, Fr o W S (.box fb 106 [.int .i64 n, ve, vd, (.slice (some ⟨mb, 0, none⟩) n.toNat n.toNat), (.slice (some ⟨lb, 0, none⟩) n.toNat n.toNat), .int .i64 t.cnt, eu, (.map (some pb))] :: .box mb 3 (arrV n fun j => .int .i64 (t.met j)) :: .box lb 3 (arrV n fun j => .int .i64 (t.low j)) :: .row 3 eu t.stk :: mapR Try.prog 3 pb iu :: .ro vd DL :: .ro u (dartsL E L v) :: tl)) ∧ 0 ≤ i ∧ 0 ≤ t.cnt ∧ Deep.Steps (Deep.Visit (dartsL E L) (headE E) h) (headE E) v via ((dartsL E L v).drop i.toNat) t s' ∧ insOf iu = t.ins) x_.1 x_.2.1 x_.2.2.1 x_.2.2.2) (fun x_ => (fun (i : Int) (t : Deep.St) (eu : Value) (iu : List (Int × Value × List Int)) => (((dartsL E L v).length : Int) - i).toNat) x_.1 x_.2.1 x_.2.2.1 x_.2.2.2) (0, Deep.enter v s, ev, ins) ?_ (fun x_ a w12 hI => ?_)
  · (try dsimp only); exact ⟨env_sub _ hA, ⟨_, H⟩, by omega, (by show 0 ≤ s.cnt + 1; omega), hv, hi⟩
  obtain ⟨i, t, eu, iu⟩ := x_
  obtain ⟨hA, ⟨S, H⟩, h0, hc, hst, hit⟩ := hI
  try dsimp only at h0 hc hst hit
  have hbt := Deep.steps_bd (Deep.visit_bd h) hst hb
  have hil : iu.length ≤ 1000000000 := by have := hbt.ins; rw [← hit, List.length_map] at this; exact this
  have hsl : t.stk.length ≤ 1000000000 := by have := hbt.len; rw [List.length_append] at this; omega
  refine go_seq fun K13 hK13 => ?_
  refine q_reg [] [(0, .pointer (some ⟨fb, 0, none⟩)), (1, .int .i64 v), (2, .int .i64 via), (43, u), (44, .int .i64 ((dartsL E L v).length : Int)), (45, .int .i64 i), (46, .bool (decide (i < ((dartsL E L v).length : Int))))] ((True) ∧ True) hA H ⟨trivial, trivial⟩ fun a w14 hA H hG => ?_
  refine hK13 _ _ ?_
  refine go_seq fun K15 hK15 => ?_
  refine go_cond hA (.tmp 46) (decide (i < ((dartsL E L v).length : Int))) (fun hb16 => ?_) (fun hb16 => ?_)
  · have hhb16 := of_decide_eq_true hb16
    refine go_skip ?_
    refine hK15 _ _ ?_
    refine go_seq fun K17 hK17 => ?_
    refine go_block 1 ?_
    refine go_seq fun K18 hK18 => ?_
    have hdm : ((dartsL E L v).getD i.toNat 0) ∈ dartsL E L v := mem_getD.2 ⟨i.toNat, by omega, rfl⟩
    obtain ⟨hd0, hd1, hd2, hd3, hd4, hd5⟩ := dart_ok hr hL hdm
    rw [drop_round h0 (by omega)] at hst
    refine q_reg [(48, .int .i64 ((dartsL E L v).getD i.toNat 0))] [(0, .pointer (some ⟨fb, 0, none⟩)), (1, .int .i64 v), (2, .int .i64 via), (7, .int .i64 ((dartsL E L v).getD i.toNat 0)), (43, u), (44, .int .i64 ((dartsL E L v).length : Int)), (45, .int .i64 i)] (((Try.prog.info? 3).isSome = true ∧ IdxOk u i) ∧ (CellOk (On w14) (hdB u) (hdO u + i.toNat * 1) (.int .i64 ((dartsL E L v).getD i.toNat 0))) ∧ (True) ∧ True) hA H ⟨⟨by kernel_rfl, by exact idx_ok (H.get 6 rfl) (by omega) (by omega)⟩, by exact cell_flat (i := i) (H.get 6 rfl) (by omega) (by omega) 0 0, trivial, trivial⟩ fun a w19 hA H hG => ?_
    refine hK18 _ _ ?_
    refine go_seq fun K20 hK20 => ?_
    refine q_reg [(54, .agg #[.int .i64 n, ve]), (56, .int .i64 (headE E ((dartsL E L v).getD i.toNat 0)))] [(0, .pointer (some ⟨fb, 0, none⟩)), (1, .int .i64 v), (2, .int .i64 via), (8, .int .i64 (((dartsL E L v).getD i.toNat 0) / 2)), (9, .int .i64 (headE E ((dartsL E L v).getD i.toNat 0))), (43, u), (44, .int .i64 ((dartsL E L v).length : Int)), (45, .int .i64 i)] ((True) ∧ (0 ≤ ((dartsL E L v).getD i.toNat 0) ∧ 0 < (2 : Int) ∧ InR .i64 ((dartsL E L v).getD i.toNat 0)) ∧ (True) ∧ (True) ∧ (0 < Try.prog.cellsOf 24) ∧ ((Try.prog.info? 24).isSome = true ∧ RowOk (On w19) fb (0 + 0) (Try.prog.cellsOf 24) #[.int .i64 n, ve]) ∧ (True) ∧ (Callable Try.prog 128 ∧ CallOk Try.prog (On w19) 128 [.agg #[.int .i64 n, ve], .int .i64 ((dartsL E L v).getD i.toNat 0)].toArray (.int .i64 (headE E ((dartsL E L v).getD i.toNat 0)))) ∧ (True) ∧ (True) ∧ True) hA H ⟨trivial, ⟨by omega, by omega, by omega, by omega⟩, trivial, trivial, by decide +kernel, ⟨by kernel_rfl, by exact box_row H 0 rfl 0 2⟩, trivial, ⟨callable_of, callOk_of fun w hw => by exact btarget_any n ve E ((dartsL E L v).getD i.toNat 0) w (by omega) (((H.on hw).arg hE)) (by omega) (by omega) (by omega)⟩, trivial, trivial, trivial⟩ fun a w21 hA H hG => ?_
    refine hK20 _ _ ?_
    refine go_block 2 ?_
    refine go_seq fun K22 hK22 => ?_
    refine q_reg [] [(0, .pointer (some ⟨fb, 0, none⟩)), (1, .int .i64 v), (2, .int .i64 via), (8, .int .i64 (((dartsL E L v).getD i.toNat 0) / 2)), (9, .int .i64 (headE E ((dartsL E L v).getD i.toNat 0))), (43, u), (44, .int .i64 ((dartsL E L v).length : Int)), (45, .int .i64 i), (57, .bool (decide (headE E ((dartsL E L v).getD i.toNat 0) = v)))] ((True) ∧ (True) ∧ (True) ∧ (True) ∧ True) hA H ⟨trivial, trivial, trivial, trivial, trivial⟩ fun a w23 hA H hG => ?_
    refine hK22 _ _ ?_
    refine go_cond hA (.tmp 57) (decide (headE E ((dartsL E L v).getD i.toNat 0) = v)) (fun hb24 => ?_) (fun hb24 => ?_)
    · have hhb24 := of_decide_eq_true hb24
      refine region_list ?_
      refine q_list 0 6 [(64, (.map (some pb)))] [(0, .pointer (some ⟨fb, 0, none⟩)), (1, .int .i64 v), (2, .int .i64 via), (43, u), (44, .int .i64 ((dartsL E L v).length : Int)), (45, .int .i64 i), (64, (.map (some pb))), (65, .int .i64 (((dartsL E L v).getD i.toNat 0) / 2)), (66, .int .i64 (((dartsL E L v).getD i.toNat 0) / 2))] ((True) ∧ (True) ∧ (0 < Try.prog.cellsOf 104) ∧ (CellOk (On w23) fb (0 + 7) ((.map (some pb)))) ∧ (True) ∧ (True) ∧ True) hA H ⟨trivial, trivial, by decide +kernel, by exact box_cell H 0 rfl 7, trivial, trivial, trivial⟩ fun a w25 hA H hG => ?_
      refine list_at 6 ?_; refine q_lit 6 67 27 1 #[(0, .tmp 66)] 3 [(0, .int .i64 (((dartsL E L v).getD i.toNat 0) / 2))] [.int .i64 (((dartsL E L v).getD i.toNat 0) / 2)] [(0, .pointer (some ⟨fb, 0, none⟩)), (1, .int .i64 v), (2, .int .i64 via), (43, u), (44, .int .i64 ((dartsL E L v).length : Int)), (45, .int .i64 i), (64, (.map (some pb))), (65, .int .i64 (((dartsL E L v).getD i.toNat 0) / 2))] hA H fun b26 a w27 H hA hG hge_b26 => ?_
      clear hge_b26
      obtain ⟨S, _, H⟩ := H.freezeBox 0 rfl (by exact (RowRd.single (α := Int) (a := ((dartsL E L v).getD i.toNat 0) / 2) (by exact rfl))) (n := 1) rfl (by decide)
      replace H : Fr _ _ _ (.ro (.slice (some ⟨b26, 0, none⟩) 1 1) ([((dartsL E L v).getD i.toNat 0) / 2] : List Int) :: .box fb 106 [.int .i64 n, ve, vd, (.slice (some ⟨mb, 0, none⟩) n.toNat n.toNat), (.slice (some ⟨lb, 0, none⟩) n.toNat n.toNat), .int .i64 t.cnt, eu, (.map (some pb))] :: .box mb 3 (arrV n fun j => .int .i64 (t.met j)) :: .box lb 3 (arrV n fun j => .int .i64 (t.low j)) :: .row 3 eu t.stk :: mapR Try.prog 3 pb iu :: .ro vd DL :: .ro u (dartsL E L v) :: tl) := H
      refine list_at 7 ?_; refine q_mapUpdate 7 104 (.tmp 64) (.tmp 65) (.tmp 67) 5 pb iu (((dartsL E L v).getD i.toNat 0) / 2) (.slice (some ⟨b26, 0, none⟩) 1 1) ([((dartsL E L v).getD i.toNat 0) / 2] : List Int) [(0, .pointer (some ⟨fb, 0, none⟩)), (1, .int .i64 v), (2, .int .i64 via), (43, u), (44, .int .i64 ((dartsL E L v).length : Int)), (45, .int .i64 i)] hA H rfl (H.getS 0 rfl) ⟨by omega, by omega⟩ (by (try simp only [List.length_append, List.length_cons, List.length_nil]); omega) Try.underlying104 Try.underlying3 fun a w29 H hA hG => ?_
      replace H : Fr _ _ _ (.ro (.slice (some ⟨b26, 0, none⟩) 1 1) ([((dartsL E L v).getD i.toNat 0) / 2] : List Int) :: .box fb 106 [.int .i64 n, ve, vd, (.slice (some ⟨mb, 0, none⟩) n.toNat n.toNat), (.slice (some ⟨lb, 0, none⟩) n.toNat n.toNat), .int .i64 t.cnt, eu, (.map (some pb))] :: .box mb 3 (arrV n fun j => .int .i64 (t.met j)) :: .box lb 3 (arrV n fun j => .int .i64 (t.low j)) :: .row 3 eu t.stk :: mapR Try.prog 3 (α := List (Int)) pb (iu ++ [(((dartsL E L v).getD i.toNat 0) / 2, (.slice (some ⟨b26, 0, none⟩) 1 1), ([((dartsL E L v).getD i.toNat 0) / 2] : List Int))]) :: .ro vd DL :: .ro u (dartsL E L v) :: tl) := H
      refine list_end ?_
      refine hK17 _ _ ?_
      refine q_reg [] [(0, .pointer (some ⟨fb, 0, none⟩)), (1, .int .i64 v), (2, .int .i64 via), (43, u), (44, .int .i64 ((dartsL E L v).length : Int)), (45, .int .i64 (i + 1))] ((InR .i64 (i + 1)) ∧ (True) ∧ True) hA H ⟨⟨by omega, by omega⟩, trivial, trivial⟩ fun a w30 hA H hG => ?_
      replace H := H.drop 0
      refine ⟨(i + 1, { t with ins := t.ins ++ [(((dartsL E L v).getD i.toNat 0) / 2, [((dartsL E L v).getD i.toNat 0) / 2])] }, eu, iu ++ [(((dartsL E L v).getD i.toNat 0) / 2, (.slice (some ⟨b26, 0, none⟩) 1 1), ([((dartsL E L v).getD i.toNat 0) / 2] : List Int))]), ⟨env_sub _ hA, ⟨_, H⟩, ?_⟩, ?_⟩
      · (try dsimp only); exact ⟨by omega, hc, Deep.steps_lp hst hhb24, by show List.map _ (_ ++ _) = _ ++ _; rw [List.map_append]; exact congr (congrArg _ hit) rfl⟩
      · (try dsimp only); omega
    · have hhb24 := of_decide_eq_false hb24
      refine go_seq fun K31 hK31 => ?_
      refine q_reg [] [(0, .pointer (some ⟨fb, 0, none⟩)), (1, .int .i64 v), (2, .int .i64 via), (8, .int .i64 (((dartsL E L v).getD i.toNat 0) / 2)), (9, .int .i64 (headE E ((dartsL E L v).getD i.toNat 0))), (43, u), (44, .int .i64 ((dartsL E L v).length : Int)), (45, .int .i64 i), (68, .bool (decide (((dartsL E L v).getD i.toNat 0) / 2 = via)))] ((True) ∧ (True) ∧ (True) ∧ (True) ∧ True) hA H ⟨trivial, trivial, trivial, trivial, trivial⟩ fun a w32 hA H hG => ?_
      refine hK31 _ _ ?_
      refine go_cond hA (.tmp 68) (decide (((dartsL E L v).getD i.toNat 0) / 2 = via)) (fun hb33 => ?_) (fun hb33 => ?_)
      · have hhb33 := of_decide_eq_true hb33
        refine go_skip ?_
        refine hK17 _ _ ?_
        refine q_reg [] [(0, .pointer (some ⟨fb, 0, none⟩)), (1, .int .i64 v), (2, .int .i64 via), (43, u), (44, .int .i64 ((dartsL E L v).length : Int)), (45, .int .i64 (i + 1))] ((InR .i64 (i + 1)) ∧ (True) ∧ True) hA H ⟨⟨by omega, by omega⟩, trivial, trivial⟩ fun a w34 hA H hG => ?_
        refine ⟨(i + 1, t, eu, iu), ⟨env_sub _ hA, ⟨_, H⟩, ?_⟩, ?_⟩
        · (try dsimp only); exact ⟨by omega, hc, Deep.steps_via hst hhb24 hhb33, hit⟩
        · (try dsimp only); omega
      · have hhb33 := of_decide_eq_false hb33
        refine go_seq fun K35 hK35 => ?_
        refine q_reg [(76, (.slice (some ⟨mb, 0, none⟩) n.toNat n.toNat)), (79, .int .i64 (t.met (headE E ((dartsL E L v).getD i.toNat 0))))] [(0, .pointer (some ⟨fb, 0, none⟩)), (1, .int .i64 v), (2, .int .i64 via), (8, .int .i64 (((dartsL E L v).getD i.toNat 0) / 2)), (9, .int .i64 (headE E ((dartsL E L v).getD i.toNat 0))), (43, u), (44, .int .i64 ((dartsL E L v).length : Int)), (45, .int .i64 i), (72, .bool (decide (t.met (headE E ((dartsL E L v).getD i.toNat 0)) = 0)))] ((True) ∧ (True) ∧ (0 < Try.prog.cellsOf 27) ∧ (CellOk (On w32) fb (0 + 3) ((.slice (some ⟨mb, 0, none⟩) n.toNat n.toNat))) ∧ (True) ∧ ((Try.prog.info? 3).isSome = true ∧ IdxOk (.slice (some ⟨mb, 0, none⟩) n.toNat n.toNat) (headE E ((dartsL E L v).getD i.toNat 0))) ∧ (CellOk (On w32) mb (0 + (headE E ((dartsL E L v).getD i.toNat 0)).toNat * 1) (.int .i64 (t.met (headE E ((dartsL E L v).getD i.toNat 0))))) ∧ (True) ∧ (True) ∧ True) hA H ⟨trivial, trivial, by decide +kernel, by exact box_cell H 0 rfl 3, trivial, ⟨by kernel_rfl, arr_idx (by omega) (by omega)⟩, by exact arr_cell H 1 rfl (by omega) (by omega), trivial, trivial, trivial⟩ fun a w36 hA H hG => ?_
        refine hK35 _ _ ?_
        refine go_cond hA (.tmp 72) (decide (t.met (headE E ((dartsL E L v).getD i.toNat 0)) = 0)) (fun hb37 => ?_) (fun hb37 => ?_)
        · have hhb37 := of_decide_eq_true hb37
          refine go_seq fun K38 hK38 => ?_
          refine region_list ?_
          refine q_list 0 6 [(85, eu)] [(0, .pointer (some ⟨fb, 0, none⟩)), (1, .int .i64 v), (2, .int .i64 via), (8, .int .i64 (((dartsL E L v).getD i.toNat 0) / 2)), (9, .int .i64 (headE E ((dartsL E L v).getD i.toNat 0))), (43, u), (44, .int .i64 ((dartsL E L v).length : Int)), (45, .int .i64 i), (81, .pointer (some ⟨fb, 0, none⟩)), (85, eu), (86, .int .i64 (((dartsL E L v).getD i.toNat 0) / 2))] ((True) ∧ (True) ∧ (True) ∧ (0 < Try.prog.cellsOf 27) ∧ (CellOk (On w36) fb (0 + 6) (eu)) ∧ (True) ∧ True) hA H ⟨trivial, trivial, trivial, by decide +kernel, by exact box_cell H 0 rfl 6, trivial, trivial⟩ fun a w39 hA H hG => ?_
          refine list_at 6 ?_; refine q_lit 6 87 27 1 #[(0, .tmp 86)] 3 [(0, .int .i64 (((dartsL E L v).getD i.toNat 0) / 2))] [.int .i64 (((dartsL E L v).getD i.toNat 0) / 2)] [(0, .pointer (some ⟨fb, 0, none⟩)), (1, .int .i64 v), (2, .int .i64 via), (8, .int .i64 (((dartsL E L v).getD i.toNat 0) / 2)), (9, .int .i64 (headE E ((dartsL E L v).getD i.toNat 0))), (43, u), (44, .int .i64 ((dartsL E L v).length : Int)), (45, .int .i64 i), (81, .pointer (some ⟨fb, 0, none⟩)), (85, eu)] hA H fun b40 a w41 H hA hG hge_b40 => ?_
          clear hge_b40
          refine list_at 7 ?_; refine q_push 7 88 (.tmp 85) (.tmp 87) 4 0 b40 1 1 eu t.stk [((dartsL E L v).getD i.toNat 0) / 2] [.int .i64 (((dartsL E L v).getD i.toNat 0) / 2)] [(0, .pointer (some ⟨fb, 0, none⟩)), (1, .int .i64 v), (2, .int .i64 via), (8, .int .i64 (((dartsL E L v).getD i.toNat 0) / 2)), (9, .int .i64 (headE E ((dartsL E L v).getD i.toNat 0))), (43, u), (44, .int .i64 ((dartsL E L v).length : Int)), (45, .int .i64 i), (81, .pointer (some ⟨fb, 0, none⟩))] hA H Try.E27 rfl rfl (by exact (RowRd.single (α := Int) rfl)) rfl (by simp only [List.length_cons, List.length_nil, List.length_append]; omega) (by decide) fun v42 a w43 H hA hG => ?_
          replace H : Fr _ _ _ (.box fb 106 [.int .i64 n, ve, vd, (.slice (some ⟨mb, 0, none⟩) n.toNat n.toNat), (.slice (some ⟨lb, 0, none⟩) n.toNat n.toNat), .int .i64 t.cnt, eu, (.map (some pb))] :: .box mb 3 (arrV n fun j => .int .i64 (t.met j)) :: .box lb 3 (arrV n fun j => .int .i64 (t.low j)) :: .row 3 v42 (t.stk ++ [((dartsL E L v).getD i.toNat 0) / 2]) :: mapR Try.prog 3 pb iu :: .ro vd DL :: .ro u (dartsL E L v) :: tl) := H.drop 0
          refine q_list 8 2 [] [(0, .pointer (some ⟨fb, 0, none⟩)), (1, .int .i64 v), (2, .int .i64 via), (8, .int .i64 (((dartsL E L v).getD i.toNat 0) / 2)), (9, .int .i64 (headE E ((dartsL E L v).getD i.toNat 0))), (43, u), (44, .int .i64 ((dartsL E L v).length : Int)), (45, .int .i64 i), (88, v42), (90, .pointer (some ⟨fb, 0 + 6, none⟩))] ((True) ∧ (0 < Try.prog.cellsOf 27) ∧ True) hA H ⟨trivial, by decide +kernel, trivial⟩ fun a w44 hA H hG => ?_
          refine list_at 10 ?_; refine q_store 10 27 (.tmp 90) (.tmp 88) 0 fb (0 + 6) 106 [.int .i64 n, ve, vd, (.slice (some ⟨mb, 0, none⟩) n.toNat n.toNat), (.slice (some ⟨lb, 0, none⟩) n.toNat n.toNat), .int .i64 t.cnt, eu, (.map (some pb))] [v42] [.int .i64 n, ve, vd, (.slice (some ⟨mb, 0, none⟩) n.toNat n.toNat), (.slice (some ⟨lb, 0, none⟩) n.toNat n.toNat), .int .i64 t.cnt, v42, (.map (some pb))] v42 [(0, .pointer (some ⟨fb, 0, none⟩)), (1, .int .i64 v), (2, .int .i64 via), (8, .int .i64 (((dartsL E L v).getD i.toNat 0) / 2)), (9, .int .i64 (headE E ((dartsL E L v).getD i.toNat 0))), (43, u), (44, .int .i64 ((dartsL E L v).length : Int)), (45, .int .i64 i)] hA H rfl (one_cells (rd_one (H.out 3 rfl))) (Nat.le_of_ble_eq_true (by kernel_rfl)) rfl (fun v hv => by simp only [List.mem_cons, List.not_mem_nil, or_false] at hv; rcases hv with rfl; exact (rd_one (H.out 3 rfl))) fun a w45 H hA hG => ?_
          replace H : Fr _ _ _ (.box fb 106 [.int .i64 n, ve, vd, (.slice (some ⟨mb, 0, none⟩) n.toNat n.toNat), (.slice (some ⟨lb, 0, none⟩) n.toNat n.toNat), .int .i64 t.cnt, v42, (.map (some pb))] :: .box mb 3 (arrV n fun j => .int .i64 (t.met j)) :: .box lb 3 (arrV n fun j => .int .i64 (t.low j)) :: .row 3 v42 (t.stk ++ [((dartsL E L v).getD i.toNat 0) / 2]) :: mapR Try.prog 3 pb iu :: .ro vd DL :: .ro u (dartsL E L v) :: tl) := H
          refine list_end ?_
          refine hK38 _ _ ?_
          refine go_seq fun K46 hK46 => ?_
          refine region_list ?_
          refine q_list 0 3 [] [(0, .pointer (some ⟨fb, 0, none⟩)), (1, .int .i64 v), (2, .int .i64 via), (8, .int .i64 (((dartsL E L v).getD i.toNat 0) / 2)), (9, .int .i64 (headE E ((dartsL E L v).getD i.toNat 0))), (43, u), (44, .int .i64 ((dartsL E L v).length : Int)), (45, .int .i64 i), (91, .pointer (some ⟨fb, 0, none⟩)), (92, .int .i64 (headE E ((dartsL E L v).getD i.toNat 0))), (93, .int .i64 (((dartsL E L v).getD i.toNat 0) / 2))] ((True) ∧ (True) ∧ (True) ∧ True) hA H ⟨trivial, trivial, trivial, trivial⟩ fun a w47 hA H hG => ?_
          obtain ⟨s1, hc1, hk1, hk2⟩ := Deep.steps_go hst hhb24 hhb33 hhb37
          have hb1 : Deep.Bd s1 := by
            by_cases q : s1.low (headE E ((dartsL E L v).getD i.toNat 0)) < s1.met v
            · exact (Deep.steps_bd (Deep.visit_bd h) (hk1 q) hb).low
            · obtain ⟨pre, S0, e1, e2, hk⟩ := hk2 q; exact Deep.Bd.take e1 (Deep.steps_bd (Deep.visit_bd h) hk hb)
          have hc2 := Deep.visit_cnt _ _ _ _ _ hc1; simp only at hc2
          refine list_at 3 ?_; refine q_any 3 94 102 #[.tmp 91, .tmp 92, .tmp 93] #[107, 3, 3] [.pointer (some ⟨fb, 0, none⟩), .int .i64 (headE E ((dartsL E L v).getD i.toNat 0)), .int .i64 (((dartsL E L v).getD i.toNat 0) / 2)] (fun u9 w9 => ∃ S ev9 in9, Fr o w9 S (finR n ve vd DL fb mb lb pb s1 ev9 in9 (.ro u (dartsL E L v) :: tl)) ∧ insOf in9 = s1.ins) [(0, .pointer (some ⟨fb, 0, none⟩)), (1, .int .i64 v), (2, .int .i64 via), (8, .int .i64 (((dartsL E L v).getD i.toNat 0) / 2)), (9, .int .i64 (headE E ((dartsL E L v).getD i.toNat 0))), (43, u), (44, .int .i64 ((dartsL E L v).length : Int)), (45, .int .i64 i)] hA ((ih _ _ { t with stk := t.stk ++ [((dartsL E L v).getD i.toNat 0) / 2] } s1 _ _ v42 iu (.ro u (dartsL E L v) :: tl) hc1 hb1 hc hd2 hd3 H hit).mono fun e9 w9 h9 => ⟨_, h9.1, h9.2⟩) fun v48 a w49 hR50 hA => ?_
          obtain ⟨S, ev2, iu2, H, hi2⟩ := hR50
          replace H : Fr _ _ _ (.box fb 106 [.int .i64 n, ve, vd, (.slice (some ⟨mb, 0, none⟩) n.toNat n.toNat), (.slice (some ⟨lb, 0, none⟩) n.toNat n.toNat), .int .i64 s1.cnt, ev2, (.map (some pb))] :: .box mb 3 (arrV n fun j => .int .i64 (s1.met j)) :: .box lb 3 (arrV n fun j => .int .i64 (s1.low j)) :: .row 3 ev2 s1.stk :: mapR Try.prog 3 pb iu2 :: .ro vd DL :: .ro u (dartsL E L v) :: tl) := H
          refine list_end ?_
          refine hK46 _ _ ?_
          refine go_seq fun K51 hK51 => ?_
          have H0 := H
          have hM0 := H0.keeps none (.inl rfl)
          refine region_mix (But w49 none) [0, 1, 2, 3, 4, 5, 6, 7, 8, 9, 10, 11, 12, 13, 14, 15, 16, 17, 18, 19] 22 ?_
          replace H := H.drawn; have hD := But.drew w49 none
          generalize ({ w49 with drawn := w49.drawn + 1 } : World) = w52 at H hD ⊢
          refine m_take (n := 2) [0, 1, 2, 3, 4, 5, 6, 7, 8, 9, 10, 11, 12, 13, 14, 15, 16, 17, 18, 19] #[true, true, true, true, true, true, true, true, true, true, true, true, true, true, true, true, true, true, true, true, false, false] [(98, (.slice (some ⟨lb, 0, none⟩) n.toNat n.toNat)), (103, (.slice (some ⟨lb, 0, none⟩) n.toNat n.toNat)), (106, .int .i64 (s1.low v)), (110, (.slice (some ⟨lb, 0, none⟩) n.toNat n.toNat)), (113, .int .i64 (s1.low (headE E ((dartsL E L v).getD i.toNat 0)))), (114, .int .i64 (min (s1.low v) (s1.low (headE E ((dartsL E L v).getD i.toNat 0)))))] [(0, .pointer (some ⟨fb, 0, none⟩)), (1, .int .i64 v), (2, .int .i64 via), (8, .int .i64 (((dartsL E L v).getD i.toNat 0) / 2)), (9, .int .i64 (headE E ((dartsL E L v).getD i.toNat 0))), (43, u), (44, .int .i64 ((dartsL E L v).length : Int)), (45, .int .i64 i), (98, (.slice (some ⟨lb, 0, none⟩) n.toNat n.toNat)), (99, .int .i64 v), (114, .int .i64 (min (s1.low v) (s1.low (headE E ((dartsL E L v).getD i.toNat 0)))))] ((True) ∧ (True) ∧ (0 < Try.prog.cellsOf 27) ∧ (CellOk (But w49 none) fb (0 + 4) ((.slice (some ⟨lb, 0, none⟩) n.toNat n.toNat))) ∧ (True) ∧ (True) ∧ (True) ∧ (0 < Try.prog.cellsOf 27) ∧ (CellOk (But w49 none) fb (0 + 4) ((.slice (some ⟨lb, 0, none⟩) n.toNat n.toNat))) ∧ (True) ∧ ((Try.prog.info? 3).isSome = true ∧ IdxOk (.slice (some ⟨lb, 0, none⟩) n.toNat n.toNat) v) ∧ (CellOk (But w49 none) lb (0 + v.toNat * 1) (.int .i64 (s1.low v))) ∧ (True) ∧ (True) ∧ (0 < Try.prog.cellsOf 27) ∧ (CellOk (But w49 none) fb (0 + 4) ((.slice (some ⟨lb, 0, none⟩) n.toNat n.toNat))) ∧ (True) ∧ ((Try.prog.info? 3).isSome = true ∧ IdxOk (.slice (some ⟨lb, 0, none⟩) n.toNat n.toNat) (headE E ((dartsL E L v).getD i.toNat 0))) ∧ (CellOk (But w49 none) lb (0 + (headE E ((dartsL E L v).getD i.toNat 0)).toNat * 1) (.int .i64 (s1.low (headE E ((dartsL E L v).getD i.toNat 0))))) ∧ (∀ ty w, (Builtin.min_ #[3, 3] ty [.int .i64 (s1.low v), .int .i64 (s1.low (headE E ((dartsL E L v).getD i.toNat 0)))].toArray).run Try.prog w = .ok (.int .i64 (min (s1.low v) (s1.low (headE E ((dartsL E L v).getD i.toNat 0))))) w) ∧ True) hA hD ⟨trivial, trivial, by decide +kernel, by exact box_cellC (box_atC H0 none 0 rfl (fun e => by cases e)) 4, trivial, trivial, trivial, by decide +kernel, by exact box_cellC (box_atC H0 none 0 rfl (fun e => by cases e)) 4, trivial, ⟨by kernel_rfl, arr_idx (by omega) (by omega)⟩, by exact arr_cellC (box_atC H0 none 2 rfl (fun e => by cases e)) (by omega) (by omega), trivial, trivial, by decide +kernel, by exact box_cellC (box_atC H0 none 0 rfl (fun e => by cases e)) 4, trivial, ⟨by kernel_rfl, arr_idx (by omega) (by omega)⟩, by exact arr_cellC (box_atC H0 none 2 rfl (fun e => by cases e)) (by omega) (by omega), fun ty w => min_ok ty w, trivial⟩ fun a hA => ?_
          refine m_one 20 ?_; refine q_one 20 [] [(0, .pointer (some ⟨fb, 0, none⟩)), (1, .int .i64 v), (2, .int .i64 via), (8, .int .i64 (((dartsL E L v).getD i.toNat 0) / 2)), (9, .int .i64 (headE E ((dartsL E L v).getD i.toNat 0))), (43, u), (44, .int .i64 ((dartsL E L v).length : Int)), (45, .int .i64 i), (114, .int .i64 (min (s1.low v) (s1.low (headE E ((dartsL E L v).getD i.toNat 0))))), (115, .pointer (some ⟨lb, 0 + v.toNat * 1, none⟩))] (((Try.prog.info? 3).isSome = true ∧ IdxOk (.slice (some ⟨lb, 0, none⟩) n.toNat n.toNat) v) ∧ True) hA H ⟨⟨by kernel_rfl, arr_idx (by omega) (by omega)⟩, trivial⟩ fun a w53 H hA hG => ?_
          refine ⟨fun h => absurd h (by decide), ?_⟩
          refine m_one 21 ?_; refine q_store 21 3 (.tmp 115) (.tmp 114) 2 lb (0 + v.toNat * 1) 3 ((arrV n fun j => .int .i64 (s1.low j))) [.int .i64 (min (s1.low v) (s1.low (headE E ((dartsL E L v).getD i.toNat 0))))] ((arrV n fun j => .int .i64 ((Deep.upd s1.low v (min (s1.low v) (s1.low (headE E ((dartsL E L v).getD i.toNat 0))))) j))) (.int .i64 (min (s1.low v) (s1.low (headE E ((dartsL E L v).getD i.toNat 0))))) [(0, .pointer (some ⟨fb, 0, none⟩)), (1, .int .i64 v), (2, .int .i64 via), (8, .int .i64 (((dartsL E L v).getD i.toNat 0) / 2)), (9, .int .i64 (headE E ((dartsL E L v).getD i.toNat 0))), (43, u), (44, .int .i64 ((dartsL E L v).length : Int)), (45, .int .i64 i)] hA H rfl rfl (arr_room (by omega) (by omega)) (arr_set (by omega) (by omega) (congrArg (Value.int .i64) (Deep.upd_same _ _ _)) (fun j hj => congrArg (Value.int .i64) (Deep.upd_ne _ _ hj))) (fun v hv => by simp only [List.mem_cons, List.not_mem_nil, or_false] at hv; rcases hv with rfl; exact rfl) fun a w54 H hA hG => ?_
          replace H : Fr _ _ _ (.box fb 106 [.int .i64 n, ve, vd, (.slice (some ⟨mb, 0, none⟩) n.toNat n.toNat), (.slice (some ⟨lb, 0, none⟩) n.toNat n.toNat), .int .i64 s1.cnt, ev2, (.map (some pb))] :: .box mb 3 (arrV n fun j => .int .i64 (s1.met j)) :: .box lb 3 (arrV n fun j => .int .i64 ((Deep.upd s1.low v (min (s1.low v) (s1.low (headE E ((dartsL E L v).getD i.toNat 0))))) j)) :: .row 3 ev2 s1.stk :: mapR Try.prog 3 pb iu2 :: .ro vd DL :: .ro u (dartsL E L v) :: tl) := H
          refine ⟨fun h => absurd h (by decide), ?_⟩
          refine m_end ?_
          refine hK51 _ _ ?_
          refine go_seq fun K55 hK55 => ?_
          refine q_draw [(119, (.slice (some ⟨lb, 0, none⟩) n.toNat n.toNat)), (122, .int .i64 ((Deep.upd s1.low v (min (s1.low v) (s1.low (headE E ((dartsL E L v).getD i.toNat 0))))) (headE E ((dartsL E L v).getD i.toNat 0)))), (126, (.slice (some ⟨mb, 0, none⟩) n.toNat n.toNat)), (129, .int .i64 (s1.met v))] [(0, .pointer (some ⟨fb, 0, none⟩)), (1, .int .i64 v), (2, .int .i64 via), (8, .int .i64 (((dartsL E L v).getD i.toNat 0) / 2)), (43, u), (44, .int .i64 ((dartsL E L v).length : Int)), (45, .int .i64 i), (130, .bool (decide (s1.met v ≤ (Deep.upd s1.low v (min (s1.low v) (s1.low (headE E ((dartsL E L v).getD i.toNat 0))))) (headE E ((dartsL E L v).getD i.toNat 0)))))] ((True) ∧ (True) ∧ (0 < Try.prog.cellsOf 27) ∧ (CellOk (On w54) fb (0 + 4) ((.slice (some ⟨lb, 0, none⟩) n.toNat n.toNat))) ∧ (True) ∧ ((Try.prog.info? 3).isSome = true ∧ IdxOk (.slice (some ⟨lb, 0, none⟩) n.toNat n.toNat) (headE E ((dartsL E L v).getD i.toNat 0))) ∧ (CellOk (On w54) lb (0 + (headE E ((dartsL E L v).getD i.toNat 0)).toNat * 1) (.int .i64 ((Deep.upd s1.low v (min (s1.low v) (s1.low (headE E ((dartsL E L v).getD i.toNat 0))))) (headE E ((dartsL E L v).getD i.toNat 0))))) ∧ (True) ∧ (True) ∧ (0 < Try.prog.cellsOf 27) ∧ (CellOk (On w54) fb (0 + 3) ((.slice (some ⟨mb, 0, none⟩) n.toNat n.toNat))) ∧ (True) ∧ ((Try.prog.info? 3).isSome = true ∧ IdxOk (.slice (some ⟨mb, 0, none⟩) n.toNat n.toNat) v) ∧ (CellOk (On w54) mb (0 + v.toNat * 1) (.int .i64 (s1.met v))) ∧ (True) ∧ True) hA H ⟨trivial, trivial, by decide +kernel, by exact box_cell H 0 rfl 4, trivial, ⟨by kernel_rfl, arr_idx (by omega) (by omega)⟩, by exact arr_cell H 2 rfl (by omega) (by omega), trivial, trivial, by decide +kernel, by exact box_cell H 0 rfl 3, trivial, ⟨by kernel_rfl, arr_idx (by omega) (by omega)⟩, by exact arr_cell H 1 rfl (by omega) (by omega), trivial, trivial⟩ fun a w56 hA H hG => ?_
          refine hK55 _ _ ?_
          refine go_cond hA (.tmp 130) (decide (s1.met v ≤ (Deep.upd s1.low v (min (s1.low v) (s1.low (headE E ((dartsL E L v).getD i.toNat 0))))) (headE E ((dartsL E L v).getD i.toNat 0)))) (fun hb57 => ?_) (fun hb57 => ?_)
          · have hhb57 := of_decide_eq_true hb57
            refine region_list ?_
            refine q_list 0 2 [] [(0, .pointer (some ⟨fb, 0, none⟩)), (1, .int .i64 v), (2, .int .i64 via), (43, u), (44, .int .i64 ((dartsL E L v).length : Int)), (45, .int .i64 i), (131, .pointer (some ⟨fb, 0, none⟩)), (132, .int .i64 (((dartsL E L v).getD i.toNat 0) / 2))] ((True) ∧ (True) ∧ True) hA H ⟨trivial, trivial, trivial⟩ fun a w58 hA H hG => ?_
            have hge : ¬ s1.low (headE E ((dartsL E L v).getD i.toNat 0)) < s1.met v := by have q := hhb57; rw [Deep.upd_ne _ _ hhb24] at q; omega
            obtain ⟨pre, S0, hs1, hs2, hk3⟩ := hk2 hge
            refine list_at 2 ?_; refine q_any 2 133 129 #[.tmp 131, .tmp 132] #[107, 3] [.pointer (some ⟨fb, 0, none⟩), .int .i64 (((dartsL E L v).getD i.toNat 0) / 2)] (fun u9 w9 => ∃ S ev9 in9, Fr o w9 S (finR n ve vd DL fb mb lb pb ({ s1 with low := (Deep.upd s1.low v (min (s1.low v) (s1.low (headE E ((dartsL E L v).getD i.toNat 0))))), stk := pre, blk := s1.blk ++ [((dartsL E L v).getD i.toNat 0) / 2 :: S0], ins := s1.ins ++ [Deep.key (((dartsL E L v).getD i.toNat 0) / 2 :: S0)] }) ev9 in9 (.ro u (dartsL E L v) :: tl)) ∧ insOf in9 = s1.ins ++ [Deep.key (((dartsL E L v).getD i.toNat 0) / 2 :: S0)]) [(0, .pointer (some ⟨fb, 0, none⟩)), (1, .int .i64 v), (2, .int .i64 via), (43, u), (44, .int .i64 ((dartsL E L v).length : Int)), (45, .int .i64 i)] hA ((take_any n ve E L vd DL fb mb lb pb o _ { s1 with low := (Deep.upd s1.low v (min (s1.low v) (s1.low (headE E ((dartsL E L v).getD i.toNat 0))))) } ev2 iu2 (.ro u (dartsL E L v) :: tl) pre S0 _ _ hE H hs1 hs2 ⟨hb1.cnt, hb1.len, hb1.mem, hb1.ins⟩ hi2).mono fun e9 w9 h9 => ⟨_, h9.1, h9.2⟩) fun v59 a w60 hR61 hA => ?_
            obtain ⟨S, ev3, iu3, H, hi3⟩ := hR61
            replace H : Fr _ _ _ (.box fb 106 [.int .i64 n, ve, vd, (.slice (some ⟨mb, 0, none⟩) n.toNat n.toNat), (.slice (some ⟨lb, 0, none⟩) n.toNat n.toNat), .int .i64 s1.cnt, ev3, (.map (some pb))] :: .box mb 3 (arrV n fun j => .int .i64 (s1.met j)) :: .box lb 3 (arrV n fun j => .int .i64 ((Deep.upd s1.low v (min (s1.low v) (s1.low (headE E ((dartsL E L v).getD i.toNat 0))))) j)) :: .row 3 ev3 pre :: mapR Try.prog 3 pb iu3 :: .ro vd DL :: .ro u (dartsL E L v) :: tl) := H
            refine list_end ?_
            refine hK17 _ _ ?_
            refine q_reg [] [(0, .pointer (some ⟨fb, 0, none⟩)), (1, .int .i64 v), (2, .int .i64 via), (43, u), (44, .int .i64 ((dartsL E L v).length : Int)), (45, .int .i64 (i + 1))] ((InR .i64 (i + 1)) ∧ (True) ∧ True) hA H ⟨⟨by omega, by omega⟩, trivial, trivial⟩ fun a w62 hA H hG => ?_
            refine ⟨(i + 1, { s1 with low := (Deep.upd s1.low v (min (s1.low v) (s1.low (headE E ((dartsL E L v).getD i.toNat 0))))), stk := pre, blk := s1.blk ++ [((dartsL E L v).getD i.toNat 0) / 2 :: S0], ins := s1.ins ++ [Deep.key (((dartsL E L v).getD i.toNat 0) / 2 :: S0)] }, ev3, iu3), ⟨env_sub _ hA, ⟨_, H⟩, ?_⟩, ?_⟩
            · (try dsimp only); exact ⟨by omega, by show 0 ≤ s1.cnt; omega, hk3, hi3⟩
            · (try dsimp only); omega
          · have hhb57 := of_decide_eq_false hb57
            refine go_skip ?_
            refine hK17 _ _ ?_
            refine q_reg [] [(0, .pointer (some ⟨fb, 0, none⟩)), (1, .int .i64 v), (2, .int .i64 via), (43, u), (44, .int .i64 ((dartsL E L v).length : Int)), (45, .int .i64 (i + 1))] ((InR .i64 (i + 1)) ∧ (True) ∧ True) hA H ⟨⟨by omega, by omega⟩, trivial, trivial⟩ fun a w63 hA H hG => ?_
            refine ⟨(i + 1, { s1 with low := (Deep.upd s1.low v (min (s1.low v) (s1.low (headE E ((dartsL E L v).getD i.toNat 0))))) }, ev2, iu2), ⟨env_sub _ hA, ⟨_, H⟩, ?_⟩, ?_⟩
            · (try dsimp only); exact ⟨by omega, by show 0 ≤ s1.cnt; omega, hk1 (by have q := hhb57; rw [Deep.upd_ne _ _ hhb24] at q; omega), hi2⟩
            · (try dsimp only); omega
        · have hhb37 := of_decide_eq_false hb37
          refine go_seq fun K64 hK64 => ?_
          refine q_draw [(138, (.slice (some ⟨mb, 0, none⟩) n.toNat n.toNat)), (141, .int .i64 (t.met (headE E ((dartsL E L v).getD i.toNat 0)))), (145, (.slice (some ⟨mb, 0, none⟩) n.toNat n.toNat)), (148, .int .i64 (t.met v))] [(0, .pointer (some ⟨fb, 0, none⟩)), (1, .int .i64 v), (2, .int .i64 via), (8, .int .i64 (((dartsL E L v).getD i.toNat 0) / 2)), (9, .int .i64 (headE E ((dartsL E L v).getD i.toNat 0))), (43, u), (44, .int .i64 ((dartsL E L v).length : Int)), (45, .int .i64 i), (134, .bool (decide (t.met (headE E ((dartsL E L v).getD i.toNat 0)) < t.met v)))] ((True) ∧ (True) ∧ (0 < Try.prog.cellsOf 27) ∧ (CellOk (On w36) fb (0 + 3) ((.slice (some ⟨mb, 0, none⟩) n.toNat n.toNat))) ∧ (True) ∧ ((Try.prog.info? 3).isSome = true ∧ IdxOk (.slice (some ⟨mb, 0, none⟩) n.toNat n.toNat) (headE E ((dartsL E L v).getD i.toNat 0))) ∧ (CellOk (On w36) mb (0 + (headE E ((dartsL E L v).getD i.toNat 0)).toNat * 1) (.int .i64 (t.met (headE E ((dartsL E L v).getD i.toNat 0))))) ∧ (True) ∧ (True) ∧ (0 < Try.prog.cellsOf 27) ∧ (CellOk (On w36) fb (0 + 3) ((.slice (some ⟨mb, 0, none⟩) n.toNat n.toNat))) ∧ (True) ∧ ((Try.prog.info? 3).isSome = true ∧ IdxOk (.slice (some ⟨mb, 0, none⟩) n.toNat n.toNat) v) ∧ (CellOk (On w36) mb (0 + v.toNat * 1) (.int .i64 (t.met v))) ∧ (True) ∧ (True) ∧ True) hA H ⟨trivial, trivial, by decide +kernel, by exact box_cell H 0 rfl 3, trivial, ⟨by kernel_rfl, arr_idx (by omega) (by omega)⟩, by exact arr_cell H 1 rfl (by omega) (by omega), trivial, trivial, by decide +kernel, by exact box_cell H 0 rfl 3, trivial, ⟨by kernel_rfl, arr_idx (by omega) (by omega)⟩, by exact arr_cell H 1 rfl (by omega) (by omega), trivial, trivial, trivial⟩ fun a w65 hA H hG => ?_
          refine hK64 _ _ ?_
          refine go_cond hA (.tmp 134) (decide (t.met (headE E ((dartsL E L v).getD i.toNat 0)) < t.met v)) (fun hb66 => ?_) (fun hb66 => ?_)
          · have hhb66 := of_decide_eq_true hb66
            refine go_seq fun K67 hK67 => ?_
            refine region_list ?_
            refine q_list 0 6 [(154, eu)] [(0, .pointer (some ⟨fb, 0, none⟩)), (1, .int .i64 v), (2, .int .i64 via), (9, .int .i64 (headE E ((dartsL E L v).getD i.toNat 0))), (43, u), (44, .int .i64 ((dartsL E L v).length : Int)), (45, .int .i64 i), (150, .pointer (some ⟨fb, 0, none⟩)), (154, eu), (155, .int .i64 (((dartsL E L v).getD i.toNat 0) / 2))] ((True) ∧ (True) ∧ (True) ∧ (0 < Try.prog.cellsOf 27) ∧ (CellOk (On w65) fb (0 + 6) (eu)) ∧ (True) ∧ True) hA H ⟨trivial, trivial, trivial, by decide +kernel, by exact box_cell H 0 rfl 6, trivial, trivial⟩ fun a w68 hA H hG => ?_
            refine list_at 6 ?_; refine q_lit 6 156 27 1 #[(0, .tmp 155)] 3 [(0, .int .i64 (((dartsL E L v).getD i.toNat 0) / 2))] [.int .i64 (((dartsL E L v).getD i.toNat 0) / 2)] [(0, .pointer (some ⟨fb, 0, none⟩)), (1, .int .i64 v), (2, .int .i64 via), (9, .int .i64 (headE E ((dartsL E L v).getD i.toNat 0))), (43, u), (44, .int .i64 ((dartsL E L v).length : Int)), (45, .int .i64 i), (150, .pointer (some ⟨fb, 0, none⟩)), (154, eu)] hA H fun b69 a w70 H hA hG hge_b69 => ?_
            clear hge_b69
            refine list_at 7 ?_; refine q_push 7 157 (.tmp 154) (.tmp 156) 4 0 b69 1 1 eu t.stk [((dartsL E L v).getD i.toNat 0) / 2] [.int .i64 (((dartsL E L v).getD i.toNat 0) / 2)] [(0, .pointer (some ⟨fb, 0, none⟩)), (1, .int .i64 v), (2, .int .i64 via), (9, .int .i64 (headE E ((dartsL E L v).getD i.toNat 0))), (43, u), (44, .int .i64 ((dartsL E L v).length : Int)), (45, .int .i64 i), (150, .pointer (some ⟨fb, 0, none⟩))] hA H Try.E27 rfl rfl (by exact (RowRd.single (α := Int) rfl)) rfl (by simp only [List.length_cons, List.length_nil, List.length_append]; omega) (by decide) fun v71 a w72 H hA hG => ?_
            replace H : Fr _ _ _ (.box fb 106 [.int .i64 n, ve, vd, (.slice (some ⟨mb, 0, none⟩) n.toNat n.toNat), (.slice (some ⟨lb, 0, none⟩) n.toNat n.toNat), .int .i64 t.cnt, eu, (.map (some pb))] :: .box mb 3 (arrV n fun j => .int .i64 (t.met j)) :: .box lb 3 (arrV n fun j => .int .i64 (t.low j)) :: .row 3 v71 (t.stk ++ [((dartsL E L v).getD i.toNat 0) / 2]) :: mapR Try.prog 3 pb iu :: .ro vd DL :: .ro u (dartsL E L v) :: tl) := H.drop 0
            refine q_list 8 2 [] [(0, .pointer (some ⟨fb, 0, none⟩)), (1, .int .i64 v), (2, .int .i64 via), (9, .int .i64 (headE E ((dartsL E L v).getD i.toNat 0))), (43, u), (44, .int .i64 ((dartsL E L v).length : Int)), (45, .int .i64 i), (157, v71), (159, .pointer (some ⟨fb, 0 + 6, none⟩))] ((True) ∧ (0 < Try.prog.cellsOf 27) ∧ True) hA H ⟨trivial, by decide +kernel, trivial⟩ fun a w73 hA H hG => ?_
            refine list_at 10 ?_; refine q_store 10 27 (.tmp 159) (.tmp 157) 0 fb (0 + 6) 106 [.int .i64 n, ve, vd, (.slice (some ⟨mb, 0, none⟩) n.toNat n.toNat), (.slice (some ⟨lb, 0, none⟩) n.toNat n.toNat), .int .i64 t.cnt, eu, (.map (some pb))] [v71] [.int .i64 n, ve, vd, (.slice (some ⟨mb, 0, none⟩) n.toNat n.toNat), (.slice (some ⟨lb, 0, none⟩) n.toNat n.toNat), .int .i64 t.cnt, v71, (.map (some pb))] v71 [(0, .pointer (some ⟨fb, 0, none⟩)), (1, .int .i64 v), (2, .int .i64 via), (9, .int .i64 (headE E ((dartsL E L v).getD i.toNat 0))), (43, u), (44, .int .i64 ((dartsL E L v).length : Int)), (45, .int .i64 i)] hA H rfl (one_cells (rd_one (H.out 3 rfl))) (Nat.le_of_ble_eq_true (by kernel_rfl)) rfl (fun v hv => by simp only [List.mem_cons, List.not_mem_nil, or_false] at hv; rcases hv with rfl; exact (rd_one (H.out 3 rfl))) fun a w74 H hA hG => ?_
            replace H : Fr _ _ _ (.box fb 106 [.int .i64 n, ve, vd, (.slice (some ⟨mb, 0, none⟩) n.toNat n.toNat), (.slice (some ⟨lb, 0, none⟩) n.toNat n.toNat), .int .i64 t.cnt, v71, (.map (some pb))] :: .box mb 3 (arrV n fun j => .int .i64 (t.met j)) :: .box lb 3 (arrV n fun j => .int .i64 (t.low j)) :: .row 3 v71 (t.stk ++ [((dartsL E L v).getD i.toNat 0) / 2]) :: mapR Try.prog 3 pb iu :: .ro vd DL :: .ro u (dartsL E L v) :: tl) := H
            refine list_end ?_
            refine hK67 _ _ ?_
            have H0 := H
            have hM0 := H0.keeps none (.inl rfl)
            refine region_mix (But w74 none) [0, 1, 2, 3, 4, 5, 6, 7, 8, 9, 10, 11, 12, 13, 14, 15, 16, 17, 18, 19] 22 ?_
            replace H := H.drawn; have hD := But.drew w74 none
            generalize ({ w74 with drawn := w74.drawn + 1 } : World) = w75 at H hD ⊢
            refine m_take (n := 2) [0, 1, 2, 3, 4, 5, 6, 7, 8, 9, 10, 11, 12, 13, 14, 15, 16, 17, 18, 19] #[true, true, true, true, true, true, true, true, true, true, true, true, true, true, true, true, true, true, true, true, false, false] [(163, (.slice (some ⟨lb, 0, none⟩) n.toNat n.toNat)), (168, (.slice (some ⟨lb, 0, none⟩) n.toNat n.toNat)), (171, .int .i64 (t.low v)), (175, (.slice (some ⟨mb, 0, none⟩) n.toNat n.toNat)), (178, .int .i64 (t.met (headE E ((dartsL E L v).getD i.toNat 0)))), (179, .int .i64 (min (t.low v) (t.met (headE E ((dartsL E L v).getD i.toNat 0)))))] [(0, .pointer (some ⟨fb, 0, none⟩)), (1, .int .i64 v), (2, .int .i64 via), (43, u), (44, .int .i64 ((dartsL E L v).length : Int)), (45, .int .i64 i), (163, (.slice (some ⟨lb, 0, none⟩) n.toNat n.toNat)), (164, .int .i64 v), (179, .int .i64 (min (t.low v) (t.met (headE E ((dartsL E L v).getD i.toNat 0)))))] ((True) ∧ (True) ∧ (0 < Try.prog.cellsOf 27) ∧ (CellOk (But w74 none) fb (0 + 4) ((.slice (some ⟨lb, 0, none⟩) n.toNat n.toNat))) ∧ (True) ∧ (True) ∧ (True) ∧ (0 < Try.prog.cellsOf 27) ∧ (CellOk (But w74 none) fb (0 + 4) ((.slice (some ⟨lb, 0, none⟩) n.toNat n.toNat))) ∧ (True) ∧ ((Try.prog.info? 3).isSome = true ∧ IdxOk (.slice (some ⟨lb, 0, none⟩) n.toNat n.toNat) v) ∧ (CellOk (But w74 none) lb (0 + v.toNat * 1) (.int .i64 (t.low v))) ∧ (True) ∧ (True) ∧ (0 < Try.prog.cellsOf 27) ∧ (CellOk (But w74 none) fb (0 + 3) ((.slice (some ⟨mb, 0, none⟩) n.toNat n.toNat))) ∧ (True) ∧ ((Try.prog.info? 3).isSome = true ∧ IdxOk (.slice (some ⟨mb, 0, none⟩) n.toNat n.toNat) (headE E ((dartsL E L v).getD i.toNat 0))) ∧ (CellOk (But w74 none) mb (0 + (headE E ((dartsL E L v).getD i.toNat 0)).toNat * 1) (.int .i64 (t.met (headE E ((dartsL E L v).getD i.toNat 0))))) ∧ (∀ ty w, (Builtin.min_ #[3, 3] ty [.int .i64 (t.low v), .int .i64 (t.met (headE E ((dartsL E L v).getD i.toNat 0)))].toArray).run Try.prog w = .ok (.int .i64 (min (t.low v) (t.met (headE E ((dartsL E L v).getD i.toNat 0))))) w) ∧ True) hA hD ⟨trivial, trivial, by decide +kernel, by exact box_cellC (box_atC H0 none 0 rfl (fun e => by cases e)) 4, trivial, trivial, trivial, by decide +kernel, by exact box_cellC (box_atC H0 none 0 rfl (fun e => by cases e)) 4, trivial, ⟨by kernel_rfl, arr_idx (by omega) (by omega)⟩, by exact arr_cellC (box_atC H0 none 2 rfl (fun e => by cases e)) (by omega) (by omega), trivial, trivial, by decide +kernel, by exact box_cellC (box_atC H0 none 0 rfl (fun e => by cases e)) 3, trivial, ⟨by kernel_rfl, arr_idx (by omega) (by omega)⟩, by exact arr_cellC (box_atC H0 none 1 rfl (fun e => by cases e)) (by omega) (by omega), fun ty w => min_ok ty w, trivial⟩ fun a hA => ?_
            refine m_one 20 ?_; refine q_one 20 [] [(0, .pointer (some ⟨fb, 0, none⟩)), (1, .int .i64 v), (2, .int .i64 via), (43, u), (44, .int .i64 ((dartsL E L v).length : Int)), (45, .int .i64 i), (179, .int .i64 (min (t.low v) (t.met (headE E ((dartsL E L v).getD i.toNat 0))))), (180, .pointer (some ⟨lb, 0 + v.toNat * 1, none⟩))] (((Try.prog.info? 3).isSome = true ∧ IdxOk (.slice (some ⟨lb, 0, none⟩) n.toNat n.toNat) v) ∧ True) hA H ⟨⟨by kernel_rfl, arr_idx (by omega) (by omega)⟩, trivial⟩ fun a w76 H hA hG => ?_
            refine ⟨fun h => absurd h (by decide), ?_⟩
            refine m_one 21 ?_; refine q_store 21 3 (.tmp 180) (.tmp 179) 2 lb (0 + v.toNat * 1) 3 ((arrV n fun j => .int .i64 (t.low j))) [.int .i64 (min (t.low v) (t.met (headE E ((dartsL E L v).getD i.toNat 0))))] ((arrV n fun j => .int .i64 ((Deep.upd t.low v (min (t.low v) (t.met (headE E ((dartsL E L v).getD i.toNat 0))))) j))) (.int .i64 (min (t.low v) (t.met (headE E ((dartsL E L v).getD i.toNat 0))))) [(0, .pointer (some ⟨fb, 0, none⟩)), (1, .int .i64 v), (2, .int .i64 via), (43, u), (44, .int .i64 ((dartsL E L v).length : Int)), (45, .int .i64 i)] hA H rfl rfl (arr_room (by omega) (by omega)) (arr_set (by omega) (by omega) (congrArg (Value.int .i64) (Deep.upd_same _ _ _)) (fun j hj => congrArg (Value.int .i64) (Deep.upd_ne _ _ hj))) (fun v hv => by simp only [List.mem_cons, List.not_mem_nil, or_false] at hv; rcases hv with rfl; exact rfl) fun a w77 H hA hG => ?_
            replace H : Fr _ _ _ (.box fb 106 [.int .i64 n, ve, vd, (.slice (some ⟨mb, 0, none⟩) n.toNat n.toNat), (.slice (some ⟨lb, 0, none⟩) n.toNat n.toNat), .int .i64 t.cnt, v71, (.map (some pb))] :: .box mb 3 (arrV n fun j => .int .i64 (t.met j)) :: .box lb 3 (arrV n fun j => .int .i64 ((Deep.upd t.low v (min (t.low v) (t.met (headE E ((dartsL E L v).getD i.toNat 0))))) j)) :: .row 3 v71 (t.stk ++ [((dartsL E L v).getD i.toNat 0) / 2]) :: mapR Try.prog 3 pb iu :: .ro vd DL :: .ro u (dartsL E L v) :: tl) := H
            refine ⟨fun h => absurd h (by decide), ?_⟩
            refine m_end ?_
            refine hK17 _ _ ?_
            refine q_reg [] [(0, .pointer (some ⟨fb, 0, none⟩)), (1, .int .i64 v), (2, .int .i64 via), (43, u), (44, .int .i64 ((dartsL E L v).length : Int)), (45, .int .i64 (i + 1))] ((InR .i64 (i + 1)) ∧ (True) ∧ True) hA H ⟨⟨by omega, by omega⟩, trivial, trivial⟩ fun a w78 hA H hG => ?_
            refine ⟨(i + 1, { t with stk := t.stk ++ [((dartsL E L v).getD i.toNat 0) / 2], low := Deep.upd t.low v (min (t.low v) (t.met (headE E ((dartsL E L v).getD i.toNat 0)))) }, v71, iu), ⟨env_sub _ hA, ⟨_, H⟩, ?_⟩, ?_⟩
            · (try dsimp only); exact ⟨by omega, hc, Deep.steps_back hst hhb24 hhb33 hhb37 hhb66, hit⟩
            · (try dsimp only); omega
          · have hhb66 := of_decide_eq_false hb66
            refine go_skip ?_
            refine hK17 _ _ ?_
            refine q_reg [] [(0, .pointer (some ⟨fb, 0, none⟩)), (1, .int .i64 v), (2, .int .i64 via), (43, u), (44, .int .i64 ((dartsL E L v).length : Int)), (45, .int .i64 (i + 1))] ((InR .i64 (i + 1)) ∧ (True) ∧ True) hA H ⟨⟨by omega, by omega⟩, trivial, trivial⟩ fun a w79 hA H hG => ?_
            refine ⟨(i + 1, t, eu, iu), ⟨env_sub _ hA, ⟨_, H⟩, ?_⟩, ?_⟩
            · (try dsimp only); exact ⟨by omega, hc, Deep.steps_skip hst hhb24 hhb33 hhb37 hhb66, hit⟩
            · (try dsimp only); omega
  · have hhb16 := of_decide_eq_false hb16
    refine go_exit 0 ?_
    refine ret_noneN (P := Try.prog) (fn := Try.f102) (R := (FinQ n ve vd DL fb mb lb pb s' tl o w)) hA ?_
    rw [drop_end (by omega)] at hst; cases Deep.steps_nil hst
    replace H := H.drop 6
    exact ⟨rfl, _, _, _, H, hit⟩

set_option maxHeartbeats 1000000 in
theorem visit_any (n : Int) (ve : Value) (E : List (Int × Int)) (L : List Int) (vd : Value) (DL : List (List Int)) (fb mb lb pb : Nat) (o : Orig)  (hr : rightE n E = 0) (hL : risesP L (E.length : Int)) (hE : Rd (· < o.w.heap.size) o.w ve E) (hDL : ∀ x, 0 ≤ x → x < n → DL.getD x.toNat [] = dartsL E L x) (hDLn : (DL.length : Int) = n) : ∀ (h : Nat) (w : World) (S : Stab) (s s' : Deep.St) (v via : Int) (ev : Value) (ins : List (Int × Value × List Int)) (tl : List Res), Deep.Visit (dartsL E L) (headE E) h v via s s' → Deep.Bd s' → 0 ≤ s.cnt → 0 ≤ v → v < n → Fr o w S (finR n ve vd DL fb mb lb pb s ev ins tl) → insOf ins = s.ins → Calls Try.prog 102 [.pointer (some ⟨fb, 0, none⟩), .int .i64 v, .int .i64 via].toArray w (FinQ n ve vd DL fb mb lb pb s' tl o w) := by
  intro h
  induction h with
  | zero => intro w S s s' v via ev ins tl hv; exact hv.elim
  | succ h ih =>
    intro w S s s' v via ev ins tl hv hb hc0 hv0 hv1 hH hi
    exact visit_step n ve E L vd DL fb mb lb pb h o S s ev ins tl s' v via w hr hL hE hDL hDLn ih hv hb hc0 hv0 hv1 hH hi
end Go.Proofs.Ytahonnlgkmimlaa
