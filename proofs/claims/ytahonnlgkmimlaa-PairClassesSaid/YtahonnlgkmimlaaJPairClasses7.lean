/-
  Texts joined by program: WalkB8, WalkP8, PairD, WalkP9, WalkP10, PairE, WalkP11, WalkP12, PairF, PairG, TabC, WalkQ1, PairH, WalkQ2, WalkQ3.
-/
import Derived.Test.YtahonnlgkmimlaaProg
import Derived.Laws.StructEq
import Derived.Tactics
import Derived.Test.YtahonnlgkmimlaaJPairClasses6
set_option linter.unusedSimpArgs false
set_option linter.unusedVariables false
namespace Go.Proofs.Ytahonnlgkmimlaa
open Go.RowKit

set_option maxRecDepth 100000 in
set_option maxHeartbeats 4000000 in
theorem cuts_any (n : Int) (ve : Value) (E : List (Int × Int)) (vv vl : Value) (V L : List Int) (o : Orig) (hn : -9223372036854775808 ≤ n ∧ n ≤ 9223372036854775807) (hE : Rd (· < o.w.heap.size) o.w ve E) (hV : Rd (· < o.w.heap.size) o.w vv V) (hL : Rd (· < o.w.heap.size) o.w vl L) :
  Calls Try.prog 48 [.agg #[.int .i64 n, ve], .agg #[vv, vl]].toArray o.w (Giv o (fun S v w' => ∃ p, v = .tuple #[p, .int .i64 (partE n E V L)] ∧ Rd S w' p (cutsE n E V L))) := by
  refine enter Try.f48 64 Try.func48 fun a hA => ?_
  replace hA := env_sub [(0, .agg #[.int .i64 n, ve]), (1, .agg #[vv, vl])] hA
  have H := Fr.start o
  refine go_seq fun K1 hK1 => ?_
  refine region_list ?_
  refine list_at 0 ?_; refine q_box 0 2 24 (.tmp 0) (.agg #[.int .i64 n, ve]) [.int .i64 n, ve] [(1, .agg #[vv, vl])] hA H fun b2 a w3 H hA hG hge_b2 => ?_
  clear hge_b2
  refine list_at 1 ?_; refine q_box 1 3 29 (.tmp 1) (.agg #[vv, vl]) [vv, vl] [(2, .pointer (some ⟨b2, 0, none⟩))] hA H fun b4 a w5 H hA hG hge_b4 => ?_
  clear hge_b4
  refine q_list 2 2 [] [(2, .pointer (some ⟨b2, 0, none⟩)), (3, .pointer (some ⟨b4, 0, none⟩))] ((True) ∧ (True) ∧ True) hA H ⟨trivial, trivial, trivial⟩ fun a w6 hA H hG => ?_
  refine list_end ?_
  refine hK1 _ _ ?_
  refine go_seq fun K7 hK7 => ?_
  refine region_list ?_
  refine q_list 0 2 [(17, .agg #[.int .i64 n, ve]), (18, .agg #[vv, vl])] [(2, .pointer (some ⟨b2, 0, none⟩)), (17, .agg #[.int .i64 n, ve]), (18, .agg #[vv, vl])] (((Try.prog.info? 24).isSome = true ∧ RowOk (On w6) b2 (0) (Try.prog.cellsOf 24) #[.int .i64 n, ve]) ∧ ((Try.prog.info? 29).isSome = true ∧ RowOk (On w6) b4 (0) (Try.prog.cellsOf 29) #[vv, vl]) ∧ True) hA H ⟨⟨by kernel_rfl, by exact box_row H 1 rfl 0 2⟩, ⟨by kernel_rfl, by exact box_row H 0 rfl 0 2⟩, trivial⟩ fun a w8 hA H hG => ?_
  refine list_at 2 ?_; refine q_call 2 19 47 #[.tmp 17, .tmp 18] #[24, 29] [.agg #[.int .i64 n, ve], .agg #[vv, vl]] (fun S v w' => ∃ p, v = .tuple #[p, .int .i64 (partE n E V L)] ∧ Rd S w' p ((blocksE n E V L))) [(2, .pointer (some ⟨b2, 0, none⟩))] hA H (by exact blocks_any n ve E vv vl V L H.at (by omega) ((H.arg hE)) ((H.arg hV)) ((H.arg hL))) fun v9 a w10 S hR11 H hA hG => ?_
  obtain ⟨v9p, rfl, hR11p⟩ := hR11
  replace H := H.ro hR11p
  replace H : Fr _ _ _ [.ro v9p (blocksE n E V L), .box b4 29 [vv, vl], .box b2 24 [.int .i64 n, ve]] := H
  refine q_list 3 5 [] [(2, .pointer (some ⟨b2, 0, none⟩)), (6, v9p), (7, .int .i64 (partE n E V L))] ((True) ∧ (True) ∧ (True) ∧ (True) ∧ (True) ∧ True) hA H ⟨trivial, trivial, trivial, trivial, trivial, trivial⟩ fun a w13 hA H hG => ?_
  refine list_end ?_
  refine hK7 _ _ ?_
  refine go_seq fun K14 hK14 => ?_
  refine go_seq fun K15 hK15 => ?_
  refine q_reg [] [(2, .pointer (some ⟨b2, 0, none⟩)), (6, v9p), (7, .int .i64 (partE n E V L)), (23, .bool (!decide (partE n E V L = 0)))] ((True) ∧ (True) ∧ True) hA H ⟨trivial, trivial, trivial⟩ fun a w16 hA H hG => ?_
  refine hK15 _ _ ?_
  refine go_cond hA (.tmp 23) (!decide (partE n E V L = 0)) (fun hb17 => ?_) (fun hb17 => ?_)
  · have hhb17 := of_decide_eq_false (nT hb17)
    refine go_seq fun K18 hK18 => ?_
    refine q_reg [] [(4, (.slice none 0 0)), (5, .int .i64 (partE n E V L))] ((True) ∧ (True) ∧ (True) ∧ True) hA H ⟨trivial, trivial, trivial, trivial⟩ fun a w19 hA H hG => ?_
    refine hK18 _ _ ?_
    refine go_ret_ ?_
    refine ret_two 4 5 (.slice none 0 0) (.int .i64 (partE n E V L)) hA ?_
    exact ⟨_, rfl, ⟨_, rfl, by unfold cutsE; rw [if_pos hhb17]; exact rd_nil⟩, H.below⟩
  · have hhb17 := of_decide_eq_true (nF hb17)
    refine go_skip ?_
    refine hK14 _ _ ?_
    refine go_seq fun K20 hK20 => ?_
    have hpt : partE n E V L = 0 := by omega
    have hbe : blocksE n E V L = blocksL n E V L := by unfold blocksE; rw [if_neg (by omega)]
    have hr9 := rightE_0 (part_iff.1 hpt).1
    have hbl9 := blocks_len n E V L
    have hl9 := rises_len (part_iff.1 hpt).2.2.1 (by omega)
    have hv9 := rises_len (part_iff.1 hpt).2.1 (by omega)
    simp only [hbe] at H
    refine region_list ?_
    refine q_list 0 2 [(26, .int .i64 n)] [(6, v9p), (26, .int .i64 n)] ((0 < Try.prog.cellsOf 3) ∧ (CellOk (On w16) b2 (0 + 0) (.int .i64 n)) ∧ True) hA H ⟨by decide +kernel, by exact box_cell H 2 rfl 0, trivial⟩ fun a w21 hA H hG => ?_
    refine list_at 2 ?_; refine q_makeA 2 27 27 (.tmp 26) 3 n (.int .i64 0) [(6, v9p)] hA H Try.underlying27 (make_info (by kernel_rfl)) (by omega) (by omega) fun b22 a w23 H hA hG hge_b22 => ?_
    clear hge_b22
    replace H : Fr _ _ _ [.box b22 3 (arrV n fun j => .int .i64 (cnt0 j)), .ro v9p (blocksL n E V L), .box b4 29 [vv, vl], .box b2 24 [.int .i64 n, ve]] := H
    refine q_list 3 1 [] [(6, v9p), (8, (.slice (some ⟨b22, 0, none⟩) n.toNat n.toNat))] ((True) ∧ True) hA H ⟨trivial, trivial⟩ fun a w24 hA H hG => ?_
    refine list_end ?_
    refine hK20 _ _ ?_
    refine go_seq fun K25 hK25 => ?_
    refine go_seq fun K26 hK26 => ?_
    refine q_reg [(29, .int .i64 ((blocksL n E V L).length : Int))] [(8, (.slice (some ⟨b22, 0, none⟩) n.toNat n.toNat)), (28, v9p), (29, .int .i64 ((blocksL n E V L).length : Int)), (30, .int .i64 0)] ((True) ∧ (LenOk v9p ((blocksL n E V L).length : Int)) ∧ (True) ∧ True) hA H ⟨trivial, by exact len_ok (H.get 1 rfl), trivial, trivial⟩ fun a w27 hA H hG => ?_
    refine hK26 _ _ ?_
    refine go_block 0 ?_
    refine go_loop_ (Int × (Int → Int)) (fun x_ a W => (fun (i : Int) (c : (Int → Int)) => EnvOk 64 a (keepEnv [(8, (.slice (some ⟨b22, 0, none⟩) n.toNat n.toNat)), (28, v9p), (29, .int .i64 ((blocksL n E V L).length : Int)), (30, .int .i64 i)]) ∧ (∃ S, Fr o W S [.box b22 3 (arrV n fun j => .int .i64 (c j)), .ro v9p (blocksL n E V L), .box b4 29 [vv, vl], .box b2 24 [.int .i64 n, ve]]) ∧ 0 ≤ i ∧ i ≤ ((blocksL n E V L).length : Int) ∧ ∀ v, c v = cntI ((blocksL n E V L).take i.toNat) v) x_.1 x_.2) (fun x_ => (fun (i : Int) (c : (Int → Int)) => (((blocksL n E V L).length : Int) - i).toNat) x_.1 x_.2) (0, cnt0) ?_ (fun x_ a w29 hI => ?_)
    · (try dsimp only); exact ⟨env_sub _ hA, ⟨_, H⟩, by omega, by omega, fun v => by simp [cnt0, cntI, hasIn]⟩
    obtain ⟨i, c⟩ := x_
    obtain ⟨hA, ⟨S, H⟩, h0, h0b, hc⟩ := hI
    try dsimp only at h0 h0b hc
    refine go_seq fun K30 hK30 => ?_
    refine q_reg [] [(8, (.slice (some ⟨b22, 0, none⟩) n.toNat n.toNat)), (28, v9p), (29, .int .i64 ((blocksL n E V L).length : Int)), (30, .int .i64 i), (31, .bool (decide (i < ((blocksL n E V L).length : Int))))] ((True) ∧ True) hA H ⟨trivial, trivial⟩ fun a w31 hA H hG => ?_
    refine hK30 _ _ ?_
    refine go_seq fun K32 hK32 => ?_
    refine go_cond hA (.tmp 31) (decide (i < ((blocksL n E V L).length : Int))) (fun hb33 => ?_) (fun hb33 => ?_)
    · have hhb33 := of_decide_eq_true hb33
      refine go_skip ?_
      refine hK32 _ _ ?_
      refine go_seq fun K34 hK34 => ?_
      refine go_block 1 ?_
      refine go_seq fun K35 hK35 => ?_
      have hbm := getD_mem (l := blocksL n E V L) (i := i.toNat) (d := ([], [])) (by omega)
      obtain ⟨q1, q2, q3, q4⟩ := block_rises hpt hbm
      have q5 := rises_len q1 (by omega); have q6 := rises_len q2 (by omega)
      refine region_list ?_
      obtain ⟨ea36, eb37, hea36c, hea36a, hea36b⟩ := cell_twoC (C := On w31) H.keepsS (H.getS 1 rfl) i
      replace H := (H.ro (hea36a (by omega) (by omega))).sink 1 4
      replace H := (H.ro (hea36b (by omega) (by omega))).sink 1 5
      replace H : Fr _ _ _ [.box b22 3 (arrV n fun j => .int .i64 (c j)), .ro v9p (blocksL n E V L), .box b4 29 [vv, vl], .box b2 24 [.int .i64 n, ve], .ro ea36 ((blocksL n E V L).getD i.toNat ([], [])).1, .ro eb37 ((blocksL n E V L).getD i.toNat ([], [])).2] := H
      refine q_list 0 2 [(33, .agg #[ea36, eb37])] [(8, (.slice (some ⟨b22, 0, none⟩) n.toNat n.toNat)), (28, v9p), (29, .int .i64 ((blocksL n E V L).length : Int)), (30, .int .i64 i), (33, .agg #[ea36, eb37])] (((Try.prog.info? 29).isSome = true ∧ IdxOk v9p i) ∧ ((Try.prog.info? 29).isSome = true ∧ RowOk (On w31) (hdB v9p) (hdO v9p + i.toNat * 2) (Try.prog.cellsOf 29) #[ea36, eb37]) ∧ True) hA H ⟨⟨by kernel_rfl, by exact idx_ok (H.get 1 rfl) (by omega) (by omega)⟩, ⟨by kernel_rfl, by exact hea36c (by omega) (by omega)⟩, trivial⟩ fun a w38 hA H hG => ?_
      refine list_at 2 ?_; refine q_alloc 2 10 29 [(.slice none 0 0), (.slice none 0 0)] [(8, (.slice (some ⟨b22, 0, none⟩) n.toNat n.toNat)), (28, v9p), (29, .int .i64 ((blocksL n E V L).length : Int)), (30, .int .i64 i), (33, .agg #[ea36, eb37])] hA H fun b39 a w40 H hA hG hge_b39 => ?_
      clear hge_b39
      refine list_at 3 ?_; refine q_store 3 29 (.tmp 10) (.tmp 33) 0 b39 (0) 29 [(.slice none 0 0), (.slice none 0 0)] [ea36, eb37] [ea36, eb37] (.agg #[ea36, eb37]) [(8, (.slice (some ⟨b22, 0, none⟩) n.toNat n.toNat)), (10, .pointer (some ⟨b39, 0, none⟩)), (28, v9p), (29, .int .i64 ((blocksL n E V L).length : Int)), (30, .int .i64 i)] hA H rfl rfl (Nat.le_of_ble_eq_true (by kernel_rfl)) rfl (fun v hv => by simp only [List.mem_cons, List.not_mem_nil, or_false] at hv; rcases hv with rfl | rfl; exact (rd_one (H.get 5 rfl)); exact (rd_one (H.get 6 rfl))) fun a w41 H hA hG => ?_
      replace H : Fr _ _ _ [.box b39 29 [ea36, eb37], .box b22 3 (arrV n fun j => .int .i64 (c j)), .ro v9p (blocksL n E V L), .box b4 29 [vv, vl], .box b2 24 [.int .i64 n, ve], .ro ea36 ((blocksL n E V L).getD i.toNat ([], [])).1, .ro eb37 ((blocksL n E V L).getD i.toNat ([], [])).2] := H
      refine list_end ?_
      refine hK35 _ _ ?_
      refine go_seq fun K42 hK42 => ?_
      refine q_reg [(35, ea36), (36, .int .i64 ((((blocksL n E V L).getD i.toNat ([], [])).1).length : Int))] [(8, (.slice (some ⟨b22, 0, none⟩) n.toNat n.toNat)), (28, v9p), (29, .int .i64 ((blocksL n E V L).length : Int)), (30, .int .i64 i), (35, ea36), (36, .int .i64 ((((blocksL n E V L).getD i.toNat ([], [])).1).length : Int)), (37, .int .i64 0)] ((0 < Try.prog.cellsOf 27) ∧ (CellOk (On w41) b39 (0 + 0) (ea36)) ∧ (LenOk ea36 ((((blocksL n E V L).getD i.toNat ([], [])).1).length : Int)) ∧ (True) ∧ True) hA H ⟨by decide +kernel, by exact box_cell H 0 rfl 0, by exact len_ok (H.get 5 rfl), trivial, trivial⟩ fun a w43 hA H hG => ?_
      refine hK42 _ _ ?_
      refine go_block 2 ?_
      refine go_loop_ (Int × (Int → Int)) (fun x_ a W => (fun (k : Int) (d : (Int → Int)) => EnvOk 64 a (keepEnv [(8, (.slice (some ⟨b22, 0, none⟩) n.toNat n.toNat)), (28, v9p), (29, .int .i64 ((blocksL n E V L).length : Int)), (30, .int .i64 i), (35, ea36), (36, .int .i64 ((((blocksL n E V L).getD i.toNat ([], [])).1).length : Int)), (37, .int .i64 k)]) ∧ (∃ S, Fr o W S [.box b39 29 [ea36, eb37], .box b22 3 (arrV n fun j => .int .i64 (d j)), .ro v9p (blocksL n E V L), .box b4 29 [vv, vl], .box b2 24 [.int .i64 n, ve], .ro ea36 ((blocksL n E V L).getD i.toNat ([], [])).1, .ro eb37 ((blocksL n E V L).getD i.toNat ([], [])).2]) ∧ 0 ≤ k ∧ ∀ v, d v = cntI ((blocksL n E V L).take i.toNat) v + (if v ∈ ((blocksL n E V L).getD i.toNat ([], [])).1.take k.toNat then 1 else 0)) x_.1 x_.2) (fun x_ => (fun (k : Int) (d : (Int → Int)) => ((((blocksL n E V L).getD i.toNat ([], [])).1.length : Int) - k).toNat) x_.1 x_.2) (0, c) ?_ (fun x_ a w45 hI => ?_)
      · (try dsimp only); exact ⟨env_sub _ hA, ⟨_, H⟩, by omega, fun v => by rw [hc v]; simp⟩
      obtain ⟨k, d⟩ := x_
      obtain ⟨hA, ⟨S, H⟩, k0, hd⟩ := hI
      try dsimp only at k0 hd
      refine go_seq fun K46 hK46 => ?_
      refine q_reg [] [(8, (.slice (some ⟨b22, 0, none⟩) n.toNat n.toNat)), (28, v9p), (29, .int .i64 ((blocksL n E V L).length : Int)), (30, .int .i64 i), (35, ea36), (36, .int .i64 ((((blocksL n E V L).getD i.toNat ([], [])).1).length : Int)), (37, .int .i64 k), (38, .bool (decide (k < ((((blocksL n E V L).getD i.toNat ([], [])).1).length : Int))))] ((True) ∧ True) hA H ⟨trivial, trivial⟩ fun a w47 hA H hG => ?_
      refine hK46 _ _ ?_
      refine go_seq fun K48 hK48 => ?_
      refine go_cond hA (.tmp 38) (decide (k < ((((blocksL n E V L).getD i.toNat ([], [])).1).length : Int))) (fun hb49 => ?_) (fun hb49 => ?_)
      · have hhb49 := of_decide_eq_true hb49
        refine go_skip ?_
        refine hK48 _ _ ?_
        refine go_seq fun K50 hK50 => ?_
        refine go_block 3 ?_
        refine go_seq fun K51 hK51 => ?_
        have hx9 := (rises_iff.1 q1).2 _ (mem_getD.2 ⟨k.toNat, by omega, rfl⟩)
        refine q_reg [(40, .int .i64 ((((blocksL n E V L).getD i.toNat ([], [])).1).getD k.toNat 0))] [(8, (.slice (some ⟨b22, 0, none⟩) n.toNat n.toNat)), (12, .int .i64 ((((blocksL n E V L).getD i.toNat ([], [])).1).getD k.toNat 0)), (28, v9p), (29, .int .i64 ((blocksL n E V L).length : Int)), (30, .int .i64 i), (35, ea36), (36, .int .i64 ((((blocksL n E V L).getD i.toNat ([], [])).1).length : Int)), (37, .int .i64 k)] (((Try.prog.info? 3).isSome = true ∧ IdxOk ea36 k) ∧ (CellOk (On w47) (hdB ea36) (hdO ea36 + k.toNat * 1) (.int .i64 ((((blocksL n E V L).getD i.toNat ([], [])).1).getD k.toNat 0))) ∧ (True) ∧ True) hA H ⟨⟨by kernel_rfl, by exact idx_ok (H.get 5 rfl) (by omega) (by omega)⟩, by exact cell_flat (i := k) (H.get 5 rfl) (by omega) (by omega) 0 0, trivial, trivial⟩ fun a w52 hA H hG => ?_
        refine hK51 _ _ ?_
        have hd9 := hd (((blocksL n E V L).getD i.toNat ([], [])).1.getD k.toNat 0)
        have hd8 := cntI_le ((blocksL n E V L).take i.toNat) (((blocksL n E V L).getD i.toNat ([], [])).1.getD k.toNat 0)
        rw [List.length_take] at hd8
        have hd7 : (0 : Int) ≤ d (((blocksL n E V L).getD i.toNat ([], [])).1.getD k.toNat 0) ∧ d (((blocksL n E V L).getD i.toNat ([], [])).1.getD k.toNat 0) ≤ 1000000 := by rw [hd9]; split <;> omega
        refine region_list ?_
        refine q_list 0 6 [(44, .int .i64 (d ((((blocksL n E V L).getD i.toNat ([], [])).1).getD k.toNat 0)))] [(8, (.slice (some ⟨b22, 0, none⟩) n.toNat n.toNat)), (28, v9p), (29, .int .i64 ((blocksL n E V L).length : Int)), (30, .int .i64 i), (35, ea36), (36, .int .i64 ((((blocksL n E V L).getD i.toNat ([], [])).1).length : Int)), (37, .int .i64 k), (45, .int .i64 ((d ((((blocksL n E V L).getD i.toNat ([], [])).1).getD k.toNat 0)) + 1)), (46, .pointer (some ⟨b22, 0 + ((((blocksL n E V L).getD i.toNat ([], [])).1).getD k.toNat 0).toNat * 1, none⟩))] ((True) ∧ (True) ∧ ((Try.prog.info? 3).isSome = true ∧ IdxOk (.slice (some ⟨b22, 0, none⟩) n.toNat n.toNat) ((((blocksL n E V L).getD i.toNat ([], [])).1).getD k.toNat 0)) ∧ (CellOk (On w52) b22 (0 + ((((blocksL n E V L).getD i.toNat ([], [])).1).getD k.toNat 0).toNat * 1) (.int .i64 (d ((((blocksL n E V L).getD i.toNat ([], [])).1).getD k.toNat 0)))) ∧ (InR .i64 ((d ((((blocksL n E V L).getD i.toNat ([], [])).1).getD k.toNat 0)) + 1)) ∧ ((Try.prog.info? 3).isSome = true ∧ IdxOk (.slice (some ⟨b22, 0, none⟩) n.toNat n.toNat) ((((blocksL n E V L).getD i.toNat ([], [])).1).getD k.toNat 0)) ∧ True) hA H ⟨trivial, trivial, ⟨by kernel_rfl, arr_idx (by omega) (by omega)⟩, by exact arr_cell H 1 rfl (by omega) (by omega), ⟨by omega, by omega⟩, ⟨by kernel_rfl, arr_idx (by omega) (by omega)⟩, trivial⟩ fun a w53 hA H hG => ?_
        refine list_at 6 ?_; refine q_store 6 3 (.tmp 46) (.tmp 45) 1 b22 (0 + ((((blocksL n E V L).getD i.toNat ([], [])).1).getD k.toNat 0).toNat * 1) 3 ((arrV n fun j => .int .i64 (d j))) [.int .i64 ((d ((((blocksL n E V L).getD i.toNat ([], [])).1).getD k.toNat 0)) + 1)] ((arrV n fun j => .int .i64 ((Deep.upd d ((((blocksL n E V L).getD i.toNat ([], [])).1).getD k.toNat 0) ((d ((((blocksL n E V L).getD i.toNat ([], [])).1).getD k.toNat 0)) + 1)) j))) (.int .i64 ((d ((((blocksL n E V L).getD i.toNat ([], [])).1).getD k.toNat 0)) + 1)) [(8, (.slice (some ⟨b22, 0, none⟩) n.toNat n.toNat)), (28, v9p), (29, .int .i64 ((blocksL n E V L).length : Int)), (30, .int .i64 i), (35, ea36), (36, .int .i64 ((((blocksL n E V L).getD i.toNat ([], [])).1).length : Int)), (37, .int .i64 k)] hA H rfl rfl (arr_room (by omega) (by omega)) (arr_set (by omega) (by omega) (congrArg (Value.int .i64) (Deep.upd_same _ _ _)) (fun j hj => congrArg (Value.int .i64) (Deep.upd_ne _ _ hj))) (fun v hv => by simp only [List.mem_cons, List.not_mem_nil, or_false] at hv; rcases hv with rfl; exact rfl) fun a w54 H hA hG => ?_
        replace H : Fr _ _ _ [.box b39 29 [ea36, eb37], .box b22 3 (arrV n fun j => .int .i64 ((Deep.upd d ((((blocksL n E V L).getD i.toNat ([], [])).1).getD k.toNat 0) ((d ((((blocksL n E V L).getD i.toNat ([], [])).1).getD k.toNat 0)) + 1)) j)), .ro v9p (blocksL n E V L), .box b4 29 [vv, vl], .box b2 24 [.int .i64 n, ve], .ro ea36 ((blocksL n E V L).getD i.toNat ([], [])).1, .ro eb37 ((blocksL n E V L).getD i.toNat ([], [])).2] := H
        refine list_end ?_
        refine hK50 _ _ ?_
        refine q_reg [] [(8, (.slice (some ⟨b22, 0, none⟩) n.toNat n.toNat)), (28, v9p), (29, .int .i64 ((blocksL n E V L).length : Int)), (30, .int .i64 i), (35, ea36), (36, .int .i64 ((((blocksL n E V L).getD i.toNat ([], [])).1).length : Int)), (37, .int .i64 (k + 1))] ((InR .i64 (k + 1)) ∧ (True) ∧ True) hA H ⟨⟨by omega, by omega⟩, trivial, trivial⟩ fun a w55 hA H hG => ?_
        refine ⟨(k + 1, Deep.upd d ((((blocksL n E V L).getD i.toNat ([], [])).1).getD k.toNat 0) ((d ((((blocksL n E V L).getD i.toNat ([], [])).1).getD k.toNat 0)) + 1)), ⟨env_sub _ hA, ⟨_, H⟩, ?_⟩, ?_⟩
        · (try dsimp only); exact ⟨by omega, fun v => cnt_step k0 (by omega) (asc_nodup (rises_iff.1 q1).1) hd v⟩
        · (try dsimp only); omega
      · have hhb49 := of_decide_eq_false hb49
        refine go_exit 2 ?_
        refine hK34 _ _ ?_
        refine q_reg [] [(8, (.slice (some ⟨b22, 0, none⟩) n.toNat n.toNat)), (28, v9p), (29, .int .i64 ((blocksL n E V L).length : Int)), (30, .int .i64 (i + 1))] ((InR .i64 (i + 1)) ∧ (True) ∧ True) hA H ⟨⟨by omega, by omega⟩, trivial, trivial⟩ fun a w56 hA H hG => ?_
        replace H := H.drop 6
        replace H := H.drop 5
        replace H := H.drop 0
        refine ⟨(i + 1, d), ⟨env_sub _ hA, ⟨_, H⟩, ?_⟩, ?_⟩
        · (try dsimp only); exact ⟨by omega, by omega, fun v => by rw [hd v, show ((blocksL n E V L).getD i.toNat ([], [])).1.take k.toNat = ((blocksL n E V L).getD i.toNat ([], [])).1 from List.take_of_length_le (by omega), cntI_snoc h0 (by omega)]⟩
        · (try dsimp only); omega
    · have hhb33 := of_decide_eq_false hb33
      refine go_exit 0 ?_
      refine hK25 _ _ ?_
      refine go_seq fun K57 hK57 => ?_
      refine q_reg [] [(8, (.slice (some ⟨b22, 0, none⟩) n.toNat n.toNat)), (13, (.slice none 0 0))] ((True) ∧ True) hA H ⟨trivial, trivial⟩ fun a w58 hA H hG => ?_
      refine hK57 _ _ ?_
      refine go_seq fun K59 hK59 => ?_
      refine go_seq fun K60 hK60 => ?_
      refine q_reg [(50, .int .i64 n)] [(13, (.slice none 0 0)), (49, (.slice (some ⟨b22, 0, none⟩) n.toNat n.toNat)), (50, .int .i64 n), (51, .int .i64 0)] ((True) ∧ (LenOk (.slice (some ⟨b22, 0, none⟩) n.toNat n.toNat) n) ∧ (True) ∧ True) hA H ⟨trivial, arr_len_ok (by omega), trivial, trivial⟩ fun a w61 hA H hG => ?_
      refine hK60 _ _ ?_
      refine go_block 4 ?_
      replace H := H.newRow (α := Int) 3
      refine go_loop_ (Int × Value × List Int) (fun x_ a W => (fun (j : Int) (vr : Value) (l : List Int) => EnvOk 64 a (keepEnv [(13, vr), (49, (.slice (some ⟨b22, 0, none⟩) n.toNat n.toNat)), (50, .int .i64 n), (51, .int .i64 j)]) ∧ (∃ S, Fr o W S [.row 3 vr l, .box b22 3 (arrV n fun j => .int .i64 (c j)), .ro v9p (blocksL n E V L), .box b4 29 [vv, vl], .box b2 24 [.int .i64 n, ve]]) ∧ 0 ≤ j ∧ j ≤ n ∧ (l.length : Int) ≤ j ∧ l = (upto j).filter (fun v => decide (1 < cntI (blocksL n E V L) v))) x_.1 x_.2.1 x_.2.2) (fun x_ => (fun (j : Int) (vr : Value) (l : List Int) => (n - j).toNat) x_.1 x_.2.1 x_.2.2) (0, .slice none 0 0, []) ?_ (fun x_ a w63 hI => ?_)
      · (try dsimp only); exact ⟨env_sub _ hA, ⟨_, H⟩, by omega, by omega, by simp, rfl⟩
      obtain ⟨j, vr, l⟩ := x_
      obtain ⟨hA, ⟨S, H⟩, j0, j0b, j1, hj⟩ := hI
      try dsimp only at j0 j0b j1 hj
      refine go_seq fun K64 hK64 => ?_
      refine q_reg [] [(13, vr), (49, (.slice (some ⟨b22, 0, none⟩) n.toNat n.toNat)), (50, .int .i64 n), (51, .int .i64 j), (52, .bool (decide (j < n)))] ((True) ∧ True) hA H ⟨trivial, trivial⟩ fun a w65 hA H hG => ?_
      refine hK64 _ _ ?_
      refine go_seq fun K66 hK66 => ?_
      refine go_cond hA (.tmp 52) (decide (j < n)) (fun hb67 => ?_) (fun hb67 => ?_)
      · have hhb67 := of_decide_eq_true hb67
        refine go_skip ?_
        refine hK66 _ _ ?_
        refine go_seq fun K68 hK68 => ?_
        refine go_block 5 ?_
        refine go_seq fun K69 hK69 => ?_
        refine q_reg [(55, .int .i64 (c j))] [(13, vr), (14, .int .i64 j), (15, .int .i64 (c j)), (49, (.slice (some ⟨b22, 0, none⟩) n.toNat n.toNat)), (50, .int .i64 n), (51, .int .i64 j)] ((True) ∧ ((Try.prog.info? 3).isSome = true ∧ IdxOk (.slice (some ⟨b22, 0, none⟩) n.toNat n.toNat) j) ∧ (CellOk (On w65) b22 (0 + j.toNat * 1) (.int .i64 (c j))) ∧ (True) ∧ (True) ∧ True) hA H ⟨trivial, ⟨by kernel_rfl, arr_idx (by omega) (by omega)⟩, by exact arr_cell H 1 rfl (by omega) (by omega), trivial, trivial, trivial⟩ fun a w70 hA H hG => ?_
        refine hK69 _ _ ?_
        refine go_seq fun K71 hK71 => ?_
        refine q_reg [] [(13, vr), (14, .int .i64 j), (49, (.slice (some ⟨b22, 0, none⟩) n.toNat n.toNat)), (50, .int .i64 n), (51, .int .i64 j), (57, .bool (decide ((1 : Int) < c j)))] ((True) ∧ (True) ∧ True) hA H ⟨trivial, trivial, trivial⟩ fun a w72 hA H hG => ?_
        refine hK71 _ _ ?_
        refine go_cond hA (.tmp 57) (decide ((1 : Int) < c j)) (fun hb73 => ?_) (fun hb73 => ?_)
        · have hhb73 := of_decide_eq_true hb73
          refine region_list ?_
          refine q_list 0 2 [] [(49, (.slice (some ⟨b22, 0, none⟩) n.toNat n.toNat)), (50, .int .i64 n), (51, .int .i64 j), (58, vr), (59, .int .i64 j)] ((True) ∧ (True) ∧ True) hA H ⟨trivial, trivial, trivial⟩ fun a w74 hA H hG => ?_
          refine list_at 2 ?_; refine q_lit 2 60 27 1 #[(0, .tmp 59)] 3 [(0, .int .i64 j)] [.int .i64 j] [(49, (.slice (some ⟨b22, 0, none⟩) n.toNat n.toNat)), (50, .int .i64 n), (51, .int .i64 j), (58, vr)] hA H fun b75 a w76 H hA hG hge_b75 => ?_
          clear hge_b75
          refine list_at 3 ?_; refine q_push 3 61 (.tmp 58) (.tmp 60) 1 0 b75 1 1 vr l [j] [.int .i64 j] [(49, (.slice (some ⟨b22, 0, none⟩) n.toNat n.toNat)), (50, .int .i64 n), (51, .int .i64 j)] hA H Try.E27 rfl rfl (by exact (RowRd.single (α := Int) rfl)) rfl (by simp only [List.length_cons, List.length_nil, List.length_append]; omega) (by decide) fun v77 a w78 H hA hG => ?_
          replace H : Fr _ _ _ [.row 3 v77 (l ++ [j]), .box b22 3 (arrV n fun j => .int .i64 (c j)), .ro v9p (blocksL n E V L), .box b4 29 [vv, vl], .box b2 24 [.int .i64 n, ve]] := H.drop 0
          refine q_list 4 1 [] [(13, v77), (49, (.slice (some ⟨b22, 0, none⟩) n.toNat n.toNat)), (50, .int .i64 n), (51, .int .i64 j)] ((True) ∧ True) hA H ⟨trivial, trivial⟩ fun a w79 hA H hG => ?_
          refine list_end ?_
          refine hK68 _ _ ?_
          refine q_reg [] [(13, v77), (49, (.slice (some ⟨b22, 0, none⟩) n.toNat n.toNat)), (50, .int .i64 n), (51, .int .i64 (j + 1))] ((InR .i64 (j + 1)) ∧ (True) ∧ True) hA H ⟨⟨by omega, by omega⟩, trivial, trivial⟩ fun a w80 hA H hG => ?_
          refine ⟨(j + 1, v77, l ++ [j]), ⟨env_sub _ hA, ⟨_, H⟩, ?_⟩, ?_⟩
          · (try dsimp only); exact ⟨by omega, by omega, by (try simp only [List.length_append, List.length_cons, List.length_nil]); omega, by rw [hj, upto_succ j0, List.filter_append, List.filter_cons]; rw [hc j, List.take_of_length_le (by omega)] at hhb73; rw [if_pos (decide_eq_true hhb73)]; rfl⟩
          · (try dsimp only); omega
        · have hhb73 := of_decide_eq_false hb73
          refine go_skip ?_
          refine hK68 _ _ ?_
          refine q_reg [] [(13, vr), (49, (.slice (some ⟨b22, 0, none⟩) n.toNat n.toNat)), (50, .int .i64 n), (51, .int .i64 (j + 1))] ((InR .i64 (j + 1)) ∧ (True) ∧ True) hA H ⟨⟨by omega, by omega⟩, trivial, trivial⟩ fun a w81 hA H hG => ?_
          refine ⟨(j + 1, vr, l), ⟨env_sub _ hA, ⟨_, H⟩, ?_⟩, ?_⟩
          · (try dsimp only); exact ⟨by omega, by omega, by (try simp only [List.length_append, List.length_cons, List.length_nil]); omega, by rw [hj, upto_succ j0, List.filter_append, List.filter_cons]; rw [hc j, List.take_of_length_le (by omega)] at hhb73; rw [if_neg (by rw [decide_eq_true_eq]; exact hhb73)]; simp⟩
          · (try dsimp only); omega
      · have hhb67 := of_decide_eq_false hb67
        refine go_exit 4 ?_
        refine hK59 _ _ ?_
        refine go_seq fun K82 hK82 => ?_
        refine q_reg [] [(4, vr), (5, .int .i64 0)] ((True) ∧ (True) ∧ (True) ∧ True) hA H ⟨trivial, trivial, trivial, trivial⟩ fun a w83 hA H hG => ?_
        refine hK82 _ _ ?_
        refine go_ret_ ?_
        refine ret_two 4 5 vr (.int .i64 0) hA ?_
        have ho := (H.give 0 rfl)
        obtain rfl : j = n := by omega
        rw [cuts_upto hpt] at hj; rw [hj] at ho; exact ⟨_, rfl, ⟨_, by rw [hpt], by unfold cutsE; rw [if_neg (by omega)]; exact ho⟩, H.below⟩

end Go.Proofs.Ytahonnlgkmimlaa

set_option linter.unusedSimpArgs false
set_option linter.unusedVariables false
namespace Go.Proofs.Ytahonnlgkmimlaa
open Go.RowKit

set_option maxRecDepth 100000 in
set_option maxHeartbeats 8000000 in
theorem beside_any (n : Int) (ve : Value) (E : List (Int × Int)) (vv vl : Value) (V L : List Int) (u : Int) (o : Orig) (hn : -9223372036854775808 ≤ n ∧ n ≤ 9223372036854775807) (hE : Rd (· < o.w.heap.size) o.w ve E) (hV : Rd (· < o.w.heap.size) o.w vv V) (hL : Rd (· < o.w.heap.size) o.w vl L) (hu : wfI u) (hwv : ∀ x ∈ V, wfI x) (hin : ∀ j, j < L.length → 0 ≤ L.getD j 0 ∧ L.getD j 0 < (E.length : Int)) (hw9 : ∀ j, j < E.length → wfI (E.getD j (0, 0)).1 ∧ wfI (E.getD j (0, 0)).2) (hs1 : V.length ≤ 100000) (hs2 : L.length ≤ 100000) :
  Calls Try.prog 91 [.agg #[.int .i64 n, ve], .agg #[vv, vl], .int .i64 u].toArray o.w (Giv o (fun S v w' => Rd S w' v (besideE n E V L u))) := by
  unfold wfI at hu hw9
  refine enter Try.f91 92 Try.func91 fun a hA => ?_
  replace hA := env_sub [(0, .agg #[.int .i64 n, ve]), (1, .agg #[vv, vl]), (2, .int .i64 u)] hA
  have H := Fr.start o
  refine go_seq fun K1 hK1 => ?_
  refine region_list ?_
  refine list_at 0 ?_; refine q_box 0 3 24 (.tmp 0) (.agg #[.int .i64 n, ve]) [.int .i64 n, ve] [(1, .agg #[vv, vl]), (2, .int .i64 u)] hA H fun b2 a w3 H hA hG hge_b2 => ?_
  clear hge_b2
  refine list_at 1 ?_; refine q_box 1 4 29 (.tmp 1) (.agg #[vv, vl]) [vv, vl] [(2, .int .i64 u), (3, .pointer (some ⟨b2, 0, none⟩))] hA H fun b4 a w5 H hA hG hge_b4 => ?_
  clear hge_b4
  refine list_at 2 ?_; refine q_box 2 5 3 (.tmp 2) (.int .i64 u) [.int .i64 u] [(3, .pointer (some ⟨b2, 0, none⟩)), (4, .pointer (some ⟨b4, 0, none⟩))] hA H fun b6 a w7 H hA hG hge_b6 => ?_
  clear hge_b6
  refine q_list 3 1 [] [(3, .pointer (some ⟨b2, 0, none⟩)), (4, .pointer (some ⟨b4, 0, none⟩)), (5, .pointer (some ⟨b6, 0, none⟩))] ((True) ∧ True) hA H ⟨trivial, trivial⟩ fun a w8 hA H hG => ?_
  refine list_end ?_
  refine hK1 _ _ ?_
  refine go_seq fun K9 hK9 => ?_
  refine region_list ?_
  refine list_at 0 ?_; refine q_alloc 0 7 29 [(.slice none 0 0), (.slice none 0 0)] [(3, .pointer (some ⟨b2, 0, none⟩)), (4, .pointer (some ⟨b4, 0, none⟩)), (5, .pointer (some ⟨b6, 0, none⟩))] hA H fun b10 a w11 H hA hG hge_b10 => ?_
  clear hge_b10
  replace H := H.newRow (α := Int) 3
  replace H := H.newRow (α := Int) 3
  refine list_end ?_
  refine hK9 _ _ ?_
  refine go_seq fun K12 hK12 => ?_
  refine region_list ?_
  refine list_at 0 ?_; refine q_makeMap Int 3 0 15 130 [(3, .pointer (some ⟨b2, 0, none⟩)), (4, .pointer (some ⟨b4, 0, none⟩)), (5, .pointer (some ⟨b6, 0, none⟩)), (7, .pointer (some ⟨b10, 0, none⟩))] hA H fun b13 a w14 H hA hG hge_b13 => ?_
  clear hge_b13
  replace H : Fr _ _ _ [mapN Try.prog 3 b13 [], .row 3 (.slice none 0 0) ([] : List Int), .row 3 (.slice none 0 0) ([] : List Int), .box b10 29 [(.slice none 0 0), (.slice none 0 0)], .box b6 3 [.int .i64 u], .box b4 29 [vv, vl], .box b2 24 [.int .i64 n, ve]] := H
  refine list_at 1 ?_; refine q_alloc 1 8 130 [(.map none)] [(3, .pointer (some ⟨b2, 0, none⟩)), (4, .pointer (some ⟨b4, 0, none⟩)), (5, .pointer (some ⟨b6, 0, none⟩)), (7, .pointer (some ⟨b10, 0, none⟩)), (15, (.map (some b13)))] hA H fun b15 a w16 H hA hG hge_b15 => ?_
  clear hge_b15
  refine list_at 2 ?_; refine q_store 2 130 (.tmp 8) (.tmp 15) 0 b15 (0) 130 [(.map none)] [(.map (some b13))] [(.map (some b13))] (.map (some b13)) [(3, .pointer (some ⟨b2, 0, none⟩)), (4, .pointer (some ⟨b4, 0, none⟩)), (5, .pointer (some ⟨b6, 0, none⟩)), (7, .pointer (some ⟨b10, 0, none⟩)), (8, .pointer (some ⟨b15, 0, none⟩))] hA H rfl rfl (Nat.le_of_ble_eq_true (by kernel_rfl)) rfl (fun v hv => by simp only [List.mem_cons, List.not_mem_nil, or_false] at hv; rcases hv with rfl; exact rfl) fun a w17 H hA hG => ?_
  replace H : Fr _ _ _ [.box b15 130 [(.map (some b13))], mapN Try.prog 3 b13 [], .row 3 (.slice none 0 0) ([] : List Int), .row 3 (.slice none 0 0) ([] : List Int), .box b10 29 [(.slice none 0 0), (.slice none 0 0)], .box b6 3 [.int .i64 u], .box b4 29 [vv, vl], .box b2 24 [.int .i64 n, ve]] := H
  refine list_end ?_
  refine hK12 _ _ ?_
  refine go_seq fun K18 hK18 => ?_
  refine go_seq fun K19 hK19 => ?_
  refine q_reg [(17, vv), (18, .int .i64 (V.length : Int))] [(3, .pointer (some ⟨b2, 0, none⟩)), (4, .pointer (some ⟨b4, 0, none⟩)), (5, .pointer (some ⟨b6, 0, none⟩)), (7, .pointer (some ⟨b10, 0, none⟩)), (8, .pointer (some ⟨b15, 0, none⟩)), (17, vv), (18, .int .i64 (V.length : Int)), (19, .int .i64 0)] ((0 < Try.prog.cellsOf 27) ∧ (CellOk (On w17) b4 (0 + 0) (vv)) ∧ (LenOk vv (V.length : Int)) ∧ (True) ∧ True) hA H ⟨by decide +kernel, by exact box_cell H 6 rfl 0, by exact len_ok (H.arg hV), trivial, trivial⟩ fun a w20 hA H hG => ?_
  refine hK19 _ _ ?_
  refine go_block 0 ?_
  replace H := Fr.order [.box b15 130 [(.map (some b13))], mapN Try.prog 3 b13 [], .row 3 (.slice none 0 0) ([] : List Int), .row 3 (.slice none 0 0) ([] : List Int), .box b10 29 [(.slice none 0 0), (.slice none 0 0)], .box b6 3 [.int .i64 u], .box b4 29 [vv, vl], .box b2 24 [.int .i64 n, ve]] [] H [2, 3, 4, 0, 1, 5, 6, 7] (by show List.Perm _ (List.range 8); decide)
  replace H : Fr _ _ _ [.row 3 (.slice none 0 0) ([] : List Int), .row 3 (.slice none 0 0) ([] : List Int), .box b10 29 [(.slice none 0 0), (.slice none 0 0)], .box b15 130 [(.map (some b13))], mapN Try.prog 3 b13 [], .box b6 3 [.int .i64 u], .box b4 29 [vv, vl], .box b2 24 [.int .i64 n, ve]] := H
  refine go_loop_ (Int × Value × List Int) (fun x_ a W => (fun (i : Int) (va : Value) (la : List Int) => EnvOk 92 a (keepEnv [(3, .pointer (some ⟨b2, 0, none⟩)), (4, .pointer (some ⟨b4, 0, none⟩)), (5, .pointer (some ⟨b6, 0, none⟩)), (7, .pointer (some ⟨b10, 0, none⟩)), (8, .pointer (some ⟨b15, 0, none⟩)), (17, vv), (18, .int .i64 (V.length : Int)), (19, .int .i64 i)]) ∧ (∃ S, Fr o W S [.row 3 (.slice none 0 0) ([] : List Int), .row 3 va la, .box b10 29 [va, (.slice none 0 0)], .box b15 130 [(.map (some b13))], mapN Try.prog 3 b13 [], .box b6 3 [.int .i64 u], .box b4 29 [vv, vl], .box b2 24 [.int .i64 n, ve]]) ∧ 0 ≤ i ∧ i ≤ (V.length : Int) ∧ (la.length : Int) ≤ i ∧ la = butV u (V.take i.toNat)) x_.1 x_.2.1 x_.2.2) (fun x_ => (fun (i : Int) (va : Value) (la : List Int) => ((V.length : Int) - i).toNat) x_.1 x_.2.1 x_.2.2) (0, .slice none 0 0, []) ?_ (fun x_ a w22 hI => ?_)
  · (try dsimp only); exact ⟨env_sub _ hA, ⟨_, H⟩, by omega, by omega, by simp, rfl⟩
  obtain ⟨i, va, la⟩ := x_
  obtain ⟨hA, ⟨S, H⟩, h0, h0b, h1, hi⟩ := hI
  try dsimp only at h0 h0b h1 hi
  replace H : Fr _ _ _ [.row 3 (.slice none 0 0) ([] : List Int), .row 3 va la, .box b10 29 [va, (.slice none 0 0)], .box b15 130 [(.map (some b13))], mapN Try.prog 3 b13 [], .box b6 3 [.int .i64 u], .box b4 29 [vv, vl], .box b2 24 [.int .i64 n, ve]] := H
  refine go_seq fun K23 hK23 => ?_
  refine q_reg [] [(3, .pointer (some ⟨b2, 0, none⟩)), (4, .pointer (some ⟨b4, 0, none⟩)), (5, .pointer (some ⟨b6, 0, none⟩)), (7, .pointer (some ⟨b10, 0, none⟩)), (8, .pointer (some ⟨b15, 0, none⟩)), (17, vv), (18, .int .i64 (V.length : Int)), (19, .int .i64 i), (20, .bool (decide (i < (V.length : Int))))] ((True) ∧ True) hA H ⟨trivial, trivial⟩ fun a w24 hA H hG => ?_
  refine hK23 _ _ ?_
  refine go_seq fun K25 hK25 => ?_
  refine go_cond hA (.tmp 20) (decide (i < (V.length : Int))) (fun hb26 => ?_) (fun hb26 => ?_)
  · have hhb26 := of_decide_eq_true hb26
    refine go_skip ?_
    refine hK25 _ _ ?_
    refine go_seq fun K27 hK27 => ?_
    refine go_block 1 ?_
    refine go_seq fun K28 hK28 => ?_
    refine q_reg [(22, .int .i64 (V.getD i.toNat 0))] [(3, .pointer (some ⟨b2, 0, none⟩)), (4, .pointer (some ⟨b4, 0, none⟩)), (5, .pointer (some ⟨b6, 0, none⟩)), (7, .pointer (some ⟨b10, 0, none⟩)), (8, .pointer (some ⟨b15, 0, none⟩)), (10, .int .i64 (V.getD i.toNat 0)), (17, vv), (18, .int .i64 (V.length : Int)), (19, .int .i64 i)] (((Try.prog.info? 3).isSome = true ∧ IdxOk vv i) ∧ (CellOk (On w24) (hdB vv) (hdO vv + i.toNat * 1) (.int .i64 (V.getD i.toNat 0))) ∧ (True) ∧ True) hA H ⟨⟨by kernel_rfl, by exact idx_ok (H.arg hV) (by omega) (by omega)⟩, by exact cell_flat (i := i) (H.arg hV) (by omega) (by omega) 0 0, trivial, trivial⟩ fun a w29 hA H hG => ?_
    refine hK28 _ _ ?_
    refine go_seq fun K30 hK30 => ?_
    refine q_reg [(24, .int .i64 u)] [(3, .pointer (some ⟨b2, 0, none⟩)), (4, .pointer (some ⟨b4, 0, none⟩)), (5, .pointer (some ⟨b6, 0, none⟩)), (7, .pointer (some ⟨b10, 0, none⟩)), (8, .pointer (some ⟨b15, 0, none⟩)), (10, .int .i64 (V.getD i.toNat 0)), (17, vv), (18, .int .i64 (V.length : Int)), (19, .int .i64 i), (25, .bool (!decide ((V.getD i.toNat 0) = u)))] ((True) ∧ (CellOk (On w29) b6 (0) (.int .i64 u)) ∧ (True) ∧ True) hA H ⟨trivial, by exact box_cell H 5 rfl 0, trivial, trivial⟩ fun a w31 hA H hG => ?_
    refine hK30 _ _ ?_
    refine go_cond hA (.tmp 25) (!decide ((V.getD i.toNat 0) = u)) (fun hb32 => ?_) (fun hb32 => ?_)
    · have hhb32 := of_decide_eq_false (nT hb32)
      refine region_list ?_
      refine q_list 0 3 [(27, va)] [(3, .pointer (some ⟨b2, 0, none⟩)), (4, .pointer (some ⟨b4, 0, none⟩)), (5, .pointer (some ⟨b6, 0, none⟩)), (7, .pointer (some ⟨b10, 0, none⟩)), (8, .pointer (some ⟨b15, 0, none⟩)), (17, vv), (18, .int .i64 (V.length : Int)), (19, .int .i64 i), (27, va), (28, .int .i64 (V.getD i.toNat 0))] ((0 < Try.prog.cellsOf 27) ∧ (CellOk (On w31) b10 (0 + 0) (va)) ∧ (True) ∧ True) hA H ⟨by decide +kernel, by exact box_cell H 2 rfl 0, trivial, trivial⟩ fun a w33 hA H hG => ?_
      refine list_at 3 ?_; refine q_lit 3 29 27 1 #[(0, .tmp 28)] 3 [(0, .int .i64 (V.getD i.toNat 0))] [.int .i64 (V.getD i.toNat 0)] [(3, .pointer (some ⟨b2, 0, none⟩)), (4, .pointer (some ⟨b4, 0, none⟩)), (5, .pointer (some ⟨b6, 0, none⟩)), (7, .pointer (some ⟨b10, 0, none⟩)), (8, .pointer (some ⟨b15, 0, none⟩)), (17, vv), (18, .int .i64 (V.length : Int)), (19, .int .i64 i), (27, va)] hA H fun b34 a w35 H hA hG hge_b34 => ?_
      clear hge_b34
      refine list_at 4 ?_; refine q_push 4 30 (.tmp 27) (.tmp 29) 2 0 b34 1 1 va la [(V.getD i.toNat 0)] [.int .i64 (V.getD i.toNat 0)] [(3, .pointer (some ⟨b2, 0, none⟩)), (4, .pointer (some ⟨b4, 0, none⟩)), (5, .pointer (some ⟨b6, 0, none⟩)), (7, .pointer (some ⟨b10, 0, none⟩)), (8, .pointer (some ⟨b15, 0, none⟩)), (17, vv), (18, .int .i64 (V.length : Int)), (19, .int .i64 i)] hA H Try.E27 rfl rfl (by exact (RowRd.single (α := Int) rfl)) rfl (by simp only [List.length_cons, List.length_nil, List.length_append]; omega) (by decide) fun v36 a w37 H hA hG => ?_
      replace H : Fr _ _ _ [.row 3 (.slice none 0 0) ([] : List Int), .row 3 v36 (la ++ [(V.getD i.toNat 0)]), .box b10 29 [va, (.slice none 0 0)], .box b15 130 [(.map (some b13))], mapN Try.prog 3 b13 [], .box b6 3 [.int .i64 u], .box b4 29 [vv, vl], .box b2 24 [.int .i64 n, ve]] := H.drop 0
      refine q_list 5 1 [] [(3, .pointer (some ⟨b2, 0, none⟩)), (4, .pointer (some ⟨b4, 0, none⟩)), (5, .pointer (some ⟨b6, 0, none⟩)), (7, .pointer (some ⟨b10, 0, none⟩)), (8, .pointer (some ⟨b15, 0, none⟩)), (17, vv), (18, .int .i64 (V.length : Int)), (19, .int .i64 i), (30, v36), (31, .pointer (some ⟨b10, 0 + 0, none⟩))] ((0 < Try.prog.cellsOf 27) ∧ True) hA H ⟨by decide +kernel, trivial⟩ fun a w38 hA H hG => ?_
      refine list_at 6 ?_; refine q_store 6 27 (.tmp 31) (.tmp 30) 2 b10 (0 + 0) 29 [va, (.slice none 0 0)] [v36] [v36, (.slice none 0 0)] v36 [(3, .pointer (some ⟨b2, 0, none⟩)), (4, .pointer (some ⟨b4, 0, none⟩)), (5, .pointer (some ⟨b6, 0, none⟩)), (7, .pointer (some ⟨b10, 0, none⟩)), (8, .pointer (some ⟨b15, 0, none⟩)), (17, vv), (18, .int .i64 (V.length : Int)), (19, .int .i64 i)] hA H rfl (one_cells (rd_one (H.out 1 rfl))) (Nat.le_of_ble_eq_true (by kernel_rfl)) rfl (fun v hv => by simp only [List.mem_cons, List.not_mem_nil, or_false] at hv; rcases hv with rfl; exact (rd_one (H.out 1 rfl))) fun a w39 H hA hG => ?_
      replace H : Fr _ _ _ [.row 3 (.slice none 0 0) ([] : List Int), .row 3 v36 (la ++ [(V.getD i.toNat 0)]), .box b10 29 [v36, (.slice none 0 0)], .box b15 130 [(.map (some b13))], mapN Try.prog 3 b13 [], .box b6 3 [.int .i64 u], .box b4 29 [vv, vl], .box b2 24 [.int .i64 n, ve]] := H
      refine list_end ?_
      refine hK27 _ _ ?_
      refine q_reg [] [(3, .pointer (some ⟨b2, 0, none⟩)), (4, .pointer (some ⟨b4, 0, none⟩)), (5, .pointer (some ⟨b6, 0, none⟩)), (7, .pointer (some ⟨b10, 0, none⟩)), (8, .pointer (some ⟨b15, 0, none⟩)), (17, vv), (18, .int .i64 (V.length : Int)), (19, .int .i64 (i + 1))] ((InR .i64 (i + 1)) ∧ (True) ∧ True) hA H ⟨⟨by omega, by omega⟩, trivial, trivial⟩ fun a w40 hA H hG => ?_
      replace H := Fr.order [.row 3 (.slice none 0 0) ([] : List Int), .row 3 v36 (la ++ [(V.getD i.toNat 0)]), .box b10 29 [v36, (.slice none 0 0)], .box b15 130 [(.map (some b13))], mapN Try.prog 3 b13 [], .box b6 3 [.int .i64 u], .box b4 29 [vv, vl], .box b2 24 [.int .i64 n, ve]] [] H [0, 1, 2, 3, 4, 5, 6, 7] (by show List.Perm _ (List.range 8); decide)
      replace H : Fr _ _ _ [.row 3 (.slice none 0 0) ([] : List Int), .row 3 v36 (la ++ [(V.getD i.toNat 0)]), .box b10 29 [v36, (.slice none 0 0)], .box b15 130 [(.map (some b13))], mapN Try.prog 3 b13 [], .box b6 3 [.int .i64 u], .box b4 29 [vv, vl], .box b2 24 [.int .i64 n, ve]] := H
      refine ⟨(i + 1, v36, la ++ [(V.getD i.toNat 0)]), ⟨env_sub _ hA, ⟨_, H⟩, ?_⟩, ?_⟩
      · (try dsimp only); exact ⟨by omega, by omega, by (try simp only [List.length_append, List.length_cons, List.length_nil]); omega, by rw [hi, butV_snoc h0 (by omega), if_neg hhb32]⟩
      · (try dsimp only); omega
    · have hhb32 := of_decide_eq_true (nF hb32)
      refine go_skip ?_
      refine hK27 _ _ ?_
      refine q_reg [] [(3, .pointer (some ⟨b2, 0, none⟩)), (4, .pointer (some ⟨b4, 0, none⟩)), (5, .pointer (some ⟨b6, 0, none⟩)), (7, .pointer (some ⟨b10, 0, none⟩)), (8, .pointer (some ⟨b15, 0, none⟩)), (17, vv), (18, .int .i64 (V.length : Int)), (19, .int .i64 (i + 1))] ((InR .i64 (i + 1)) ∧ (True) ∧ True) hA H ⟨⟨by omega, by omega⟩, trivial, trivial⟩ fun a w41 hA H hG => ?_
      replace H := Fr.order [.row 3 (.slice none 0 0) ([] : List Int), .row 3 va la, .box b10 29 [va, (.slice none 0 0)], .box b15 130 [(.map (some b13))], mapN Try.prog 3 b13 [], .box b6 3 [.int .i64 u], .box b4 29 [vv, vl], .box b2 24 [.int .i64 n, ve]] [] H [0, 1, 2, 3, 4, 5, 6, 7] (by show List.Perm _ (List.range 8); decide)
      replace H : Fr _ _ _ [.row 3 (.slice none 0 0) ([] : List Int), .row 3 va la, .box b10 29 [va, (.slice none 0 0)], .box b15 130 [(.map (some b13))], mapN Try.prog 3 b13 [], .box b6 3 [.int .i64 u], .box b4 29 [vv, vl], .box b2 24 [.int .i64 n, ve]] := H
      refine ⟨(i + 1, va, la), ⟨env_sub _ hA, ⟨_, H⟩, ?_⟩, ?_⟩
      · (try dsimp only); exact ⟨by omega, by omega, by (try simp only [List.length_append, List.length_cons, List.length_nil]); omega, by rw [hi, butV_snoc h0 (by omega), if_pos (by have := hhb32; omega), List.append_nil]⟩
      · (try dsimp only); omega
  · have hhb26 := of_decide_eq_false hb26
    refine go_exit 0 ?_
    refine hK18 _ _ ?_
    refine go_seq fun K42 hK42 => ?_
    refine go_seq fun K43 hK43 => ?_
    have hv9 := hi
    refine q_reg [(34, vl), (35, .int .i64 (L.length : Int))] [(3, .pointer (some ⟨b2, 0, none⟩)), (5, .pointer (some ⟨b6, 0, none⟩)), (7, .pointer (some ⟨b10, 0, none⟩)), (8, .pointer (some ⟨b15, 0, none⟩)), (34, vl), (35, .int .i64 (L.length : Int)), (36, .int .i64 0)] ((0 < Try.prog.cellsOf 27) ∧ (CellOk (On w24) b4 (0 + 1) (vl)) ∧ (LenOk vl (L.length : Int)) ∧ (True) ∧ True) hA H ⟨by decide +kernel, by exact box_cell H 6 rfl 1, by exact len_ok (H.arg hL), trivial, trivial⟩ fun a w44 hA H hG => ?_
    refine hK43 _ _ ?_
    refine go_block 2 ?_
    replace H := Fr.order [.row 3 (.slice none 0 0) ([] : List Int), .row 3 va la, .box b10 29 [va, (.slice none 0 0)], .box b15 130 [(.map (some b13))], mapN Try.prog 3 b13 [], .box b6 3 [.int .i64 u], .box b4 29 [vv, vl], .box b2 24 [.int .i64 n, ve]] [] H [4, 0, 1, 2, 3, 5, 6, 7] (by show List.Perm _ (List.range 8); decide)
    replace H : Fr _ _ _ [mapN Try.prog 3 b13 [], .row 3 (.slice none 0 0) ([] : List Int), .row 3 va la, .box b10 29 [va, (.slice none 0 0)], .box b15 130 [(.map (some b13))], .box b6 3 [.int .i64 u], .box b4 29 [vv, vl], .box b2 24 [.int .i64 n, ve]] := H
    refine go_loop_ (Int × List (Int × Int) × Value × List Int) (fun x_ a W => (fun (i : Int) (m : List (Int × Int)) (vb : Value) (lb : List Int) => EnvOk 92 a (keepEnv [(3, .pointer (some ⟨b2, 0, none⟩)), (5, .pointer (some ⟨b6, 0, none⟩)), (7, .pointer (some ⟨b10, 0, none⟩)), (8, .pointer (some ⟨b15, 0, none⟩)), (34, vl), (35, .int .i64 (L.length : Int)), (36, .int .i64 i)]) ∧ (∃ S, Fr o W S [mapN Try.prog 3 b13 m, .row 3 vb lb, .row 3 va la, .box b10 29 [va, vb], .box b15 130 [(.map (some b13))], .box b6 3 [.int .i64 u], .box b4 29 [vv, vl], .box b2 24 [.int .i64 n, ve]]) ∧ 0 ≤ i ∧ i ≤ (L.length : Int) ∧ (m.length : Int) ≤ i ∧ (lb.length : Int) ≤ i ∧ (∀ v, lastAt m v = cntO (othE E u (L.take i.toNat)) v) ∧ lb = leftE E u (L.take i.toNat)) x_.1 x_.2.1 x_.2.2.1 x_.2.2.2) (fun x_ => (fun (i : Int) (m : List (Int × Int)) (vb : Value) (lb : List Int) => ((L.length : Int) - i).toNat) x_.1 x_.2.1 x_.2.2.1 x_.2.2.2) (0, [], .slice none 0 0, []) ?_ (fun x_ a w46 hI => ?_)
    · (try dsimp only); exact ⟨env_sub _ hA, ⟨_, H⟩, by omega, by omega, by simp, by simp, fun v => by simp [lastAt, cntO, othE], rfl⟩
    obtain ⟨i, m, vb, lb⟩ := x_
    obtain ⟨hA, ⟨S, H⟩, h0, h0b, h1, h2, hm, hi⟩ := hI
    try dsimp only at h0 h0b h1 h2 hm hi
    replace H : Fr _ _ _ [mapN Try.prog 3 b13 m, .row 3 vb lb, .row 3 va la, .box b10 29 [va, vb], .box b15 130 [(.map (some b13))], .box b6 3 [.int .i64 u], .box b4 29 [vv, vl], .box b2 24 [.int .i64 n, ve]] := H
    refine go_seq fun K47 hK47 => ?_
    refine q_reg [] [(3, .pointer (some ⟨b2, 0, none⟩)), (5, .pointer (some ⟨b6, 0, none⟩)), (7, .pointer (some ⟨b10, 0, none⟩)), (8, .pointer (some ⟨b15, 0, none⟩)), (34, vl), (35, .int .i64 (L.length : Int)), (36, .int .i64 i), (37, .bool (decide (i < (L.length : Int))))] ((True) ∧ True) hA H ⟨trivial, trivial⟩ fun a w48 hA H hG => ?_
    refine hK47 _ _ ?_
    refine go_seq fun K49 hK49 => ?_
    refine go_cond hA (.tmp 37) (decide (i < (L.length : Int))) (fun hb50 => ?_) (fun hb50 => ?_)
    · have hhb50 := of_decide_eq_true hb50
      refine go_skip ?_
      refine hK49 _ _ ?_
      refine go_seq fun K51 hK51 => ?_
      refine go_block 3 ?_
      refine go_seq fun K52 hK52 => ?_
      refine q_reg [(39, .int .i64 (L.getD i.toNat 0))] [(3, .pointer (some ⟨b2, 0, none⟩)), (5, .pointer (some ⟨b6, 0, none⟩)), (7, .pointer (some ⟨b10, 0, none⟩)), (8, .pointer (some ⟨b15, 0, none⟩)), (12, .int .i64 (L.getD i.toNat 0)), (34, vl), (35, .int .i64 (L.length : Int)), (36, .int .i64 i)] (((Try.prog.info? 3).isSome = true ∧ IdxOk vl i) ∧ (CellOk (On w48) (hdB vl) (hdO vl + i.toNat * 1) (.int .i64 (L.getD i.toNat 0))) ∧ (True) ∧ True) hA H ⟨⟨by kernel_rfl, by exact idx_ok (H.arg hL) (by omega) (by omega)⟩, by exact cell_flat (i := i) (H.arg hL) (by omega) (by omega) 0 0, trivial, trivial⟩ fun a w53 hA H hG => ?_
      refine hK52 _ _ ?_
      refine go_seq fun K54 hK54 => ?_
      refine q_reg [(40, .int .i64 u)] [(3, .pointer (some ⟨b2, 0, none⟩)), (5, .pointer (some ⟨b6, 0, none⟩)), (7, .pointer (some ⟨b10, 0, none⟩)), (8, .pointer (some ⟨b15, 0, none⟩)), (12, .int .i64 (L.getD i.toNat 0)), (34, vl), (35, .int .i64 (L.length : Int)), (36, .int .i64 i), (40, .int .i64 u)] ((CellOk (On w53) b6 (0) (.int .i64 u)) ∧ True) hA H ⟨by exact box_cell H 5 rfl 0, trivial⟩ fun a w55 hA H hG => ?_
      refine hK54 _ _ ?_
      refine go_block 4 ?_
      refine go_seq fun K56 hK56 => ?_
      have hx9 := hin i.toNat (by omega)
      have hy9 := hw9 (L.getD i.toNat 0).toNat (by omega)
      have hc1 := oth_bd h0 hm (E.getD (L.getD i.toNat 0).toNat (0, 0)).1; have hc2 := oth_bd h0 hm (E.getD (L.getD i.toNat 0).toNat (0, 0)).2
      refine q_reg [(49, ve), (53, .int .i64 ((E.getD (L.getD i.toNat 0).toNat (0, 0)).1))] [(3, .pointer (some ⟨b2, 0, none⟩)), (5, .pointer (some ⟨b6, 0, none⟩)), (7, .pointer (some ⟨b10, 0, none⟩)), (8, .pointer (some ⟨b15, 0, none⟩)), (12, .int .i64 (L.getD i.toNat 0)), (34, vl), (35, .int .i64 (L.length : Int)), (36, .int .i64 i), (40, .int .i64 u), (47, .bool (decide (u = (E.getD (L.getD i.toNat 0).toNat (0, 0)).1)))] ((0 < Try.prog.cellsOf 22) ∧ (CellOk (On w55) b2 (0 + 1) (ve)) ∧ (True) ∧ ((Try.prog.info? 99).isSome = true ∧ IdxOk ve (L.getD i.toNat 0)) ∧ (0 < Try.prog.cellsOf 3) ∧ (CellOk (On w55) (hdB ve) (hdO ve + (L.getD i.toNat 0).toNat * 2 + 0) (.int .i64 ((E.getD (L.getD i.toNat 0).toNat (0, 0)).1))) ∧ (True) ∧ (True) ∧ True) hA H ⟨by decide +kernel, by exact box_cell H 7 rfl 1, trivial, ⟨by kernel_rfl, by exact idx_ok (H.arg hE) (by omega) (by omega)⟩, by decide +kernel, by exact cell_flat (i := (L.getD i.toNat 0)) (H.arg hE) (by omega) (by omega) (0, 0) 0, trivial, trivial, trivial⟩ fun a w57 hA H hG => ?_
      refine hK56 _ _ ?_
      refine go_cond hA (.tmp 47) (decide (u = (E.getD (L.getD i.toNat 0).toNat (0, 0)).1)) (fun hb58 => ?_) (fun hb58 => ?_)
      · have hhb58 := of_decide_eq_true hb58
        have H0 := H
        have hM0 := H0.keeps none (.inl rfl)
        refine region_mix (But w57 none) [0, 1, 2, 3, 4, 5, 6, 7, 8] 10 ?_
        replace H := H.drawn; have hD := But.drew w57 none
        generalize ({ w57 with drawn := w57.drawn + 1 } : World) = w59 at H hD ⊢
        refine m_take (n := 3) [0, 1, 2, 3, 4, 5, 6] #[true, true, true, true, true, true, true, false, false, false] [(55, (.map (some b13))), (57, ve), (61, .int .i64 ((E.getD (L.getD i.toNat 0).toNat (0, 0)).2))] [(3, .pointer (some ⟨b2, 0, none⟩)), (5, .pointer (some ⟨b6, 0, none⟩)), (7, .pointer (some ⟨b10, 0, none⟩)), (8, .pointer (some ⟨b15, 0, none⟩)), (34, vl), (35, .int .i64 (L.length : Int)), (36, .int .i64 i), (55, (.map (some b13))), (61, .int .i64 ((E.getD (L.getD i.toNat 0).toNat (0, 0)).2))] ((CellOk (But w57 none) b15 (0) ((.map (some b13)))) ∧ (0 < Try.prog.cellsOf 22) ∧ (CellOk (But w57 none) b2 (0 + 1) (ve)) ∧ (True) ∧ ((Try.prog.info? 99).isSome = true ∧ IdxOk ve (L.getD i.toNat 0)) ∧ (0 < Try.prog.cellsOf 3) ∧ (CellOk (But w57 none) (hdB ve) (hdO ve + (L.getD i.toNat 0).toNat * 2 + 1) (.int .i64 ((E.getD (L.getD i.toNat 0).toNat (0, 0)).2))) ∧ True) hA hD ⟨by exact box_cellC (box_atC H0 none 4 rfl (fun e => by cases e)) 0, by decide +kernel, by exact box_cellC (box_atC H0 none 7 rfl (fun e => by cases e)) 1, trivial, ⟨by kernel_rfl, by exact idx_ok (H0.argT hE) (by omega) (by omega)⟩, by decide +kernel, by exact cell_flatC hM0 (i := (L.getD i.toNat 0)) (H0.argT hE) (by omega) (by omega) (0, 0) 1, trivial⟩ fun a hA => ?_
        refine m_one 7 ?_; refine q_one 7 [(62, .int .i64 ((lastAt m ((E.getD (L.getD i.toNat 0).toNat (0, 0)).2)).getD 0))] [(3, .pointer (some ⟨b2, 0, none⟩)), (5, .pointer (some ⟨b6, 0, none⟩)), (7, .pointer (some ⟨b10, 0, none⟩)), (8, .pointer (some ⟨b15, 0, none⟩)), (34, vl), (35, .int .i64 (L.length : Int)), (36, .int .i64 i), (55, (.map (some b13))), (61, .int .i64 ((E.getD (L.getD i.toNat 0).toNat (0, 0)).2)), (62, .int .i64 ((lastAt m ((E.getD (L.getD i.toNat 0).toNat (0, 0)).2)).getD 0))] ((∀ w', On w59 w' → (Instr.lookup 130 (.map (some b13)) (.int .i64 ((E.getD (L.getD i.toNat 0).toNat (0, 0)).2)) false).run Try.prog w' = .ok (.int .i64 ((lastAt m ((E.getD (L.getD i.toNat 0).toNat (0, 0)).2)).getD 0)) w') ∧ True) hA H ⟨by exact mapN_look H 0 rfl (obj_on H 0 rfl) ⟨by omega, by omega⟩ Try.underlying130 Try.underlying3 (fun w => by kernel_rfl), trivial⟩ fun a w60 H hA hG => ?_
        replace hD := hD.below hG
        refine ⟨fun _ => hD, ?_⟩
        refine m_take (n := 1) [8] #[true, true, true, true, true, true, true, true, true, false] [] [(3, .pointer (some ⟨b2, 0, none⟩)), (5, .pointer (some ⟨b6, 0, none⟩)), (7, .pointer (some ⟨b10, 0, none⟩)), (8, .pointer (some ⟨b15, 0, none⟩)), (34, vl), (35, .int .i64 (L.length : Int)), (36, .int .i64 i), (55, (.map (some b13))), (61, .int .i64 ((E.getD (L.getD i.toNat 0).toNat (0, 0)).2)), (63, .int .i64 (((lastAt m ((E.getD (L.getD i.toNat 0).toNat (0, 0)).2)).getD 0) + 1))] ((InR .i64 (((lastAt m ((E.getD (L.getD i.toNat 0).toNat (0, 0)).2)).getD 0) + 1)) ∧ True) hA hD ⟨⟨by omega, by omega⟩, trivial⟩ fun a hA => ?_
        refine m_one 9 ?_; refine q_mapUpdateN 9 130 (.tmp 55) (.tmp 61) (.tmp 63) 0 b13 m ((E.getD (L.getD i.toNat 0).toNat (0, 0)).2) (((lastAt m ((E.getD (L.getD i.toNat 0).toNat (0, 0)).2)).getD 0) + 1) [(3, .pointer (some ⟨b2, 0, none⟩)), (5, .pointer (some ⟨b6, 0, none⟩)), (7, .pointer (some ⟨b10, 0, none⟩)), (8, .pointer (some ⟨b15, 0, none⟩)), (34, vl), (35, .int .i64 (L.length : Int)), (36, .int .i64 i)] hA H rfl ⟨by omega, by omega⟩ (by (try simp only [List.length_append, List.length_cons, List.length_nil]); omega) Try.underlying130 Try.underlying3 fun a w61 H hA hG => ?_
        replace H : Fr _ _ _ [mapN Try.prog 3 b13 (m ++ [((E.getD (L.getD i.toNat 0).toNat (0, 0)).2, ((lastAt m ((E.getD (L.getD i.toNat 0).toNat (0, 0)).2)).getD 0) + 1)]), .row 3 vb lb, .row 3 va la, .box b10 29 [va, vb], .box b15 130 [(.map (some b13))], .box b6 3 [.int .i64 u], .box b4 29 [vv, vl], .box b2 24 [.int .i64 n, ve]] := H
        refine ⟨fun h => absurd h (by decide), ?_⟩
        refine m_end ?_
        refine hK51 _ _ ?_
        refine q_reg [] [(3, .pointer (some ⟨b2, 0, none⟩)), (5, .pointer (some ⟨b6, 0, none⟩)), (7, .pointer (some ⟨b10, 0, none⟩)), (8, .pointer (some ⟨b15, 0, none⟩)), (34, vl), (35, .int .i64 (L.length : Int)), (36, .int .i64 (i + 1))] ((InR .i64 (i + 1)) ∧ (True) ∧ True) hA H ⟨⟨by omega, by omega⟩, trivial, trivial⟩ fun a w62 hA H hG => ?_
        refine ⟨(i + 1, m ++ [((E.getD (L.getD i.toNat 0).toNat (0, 0)).2, ((lastAt m ((E.getD (L.getD i.toNat 0).toNat (0, 0)).2)).getD 0) + 1)], vb, lb), ⟨env_sub _ hA, ⟨_, H⟩, ?_⟩, ?_⟩
        · (try dsimp only); exact ⟨by omega, by omega, by (try simp only [List.length_append, List.length_cons, List.length_nil]); omega, by (try simp only [List.length_append, List.length_cons, List.length_nil]); omega, fun v => by rw [othE_snoc h0 (by omega), if_pos hhb58]; exact cnt_put hm _ v, by rw [hi, leftE_snoc h0 (by omega), if_pos hhb58, List.append_nil]⟩
        · (try dsimp only); omega
      · have hhb58 := of_decide_eq_false hb58
        refine go_seq fun K63 hK63 => ?_
        refine q_reg [(66, ve), (70, .int .i64 ((E.getD (L.getD i.toNat 0).toNat (0, 0)).2))] [(3, .pointer (some ⟨b2, 0, none⟩)), (5, .pointer (some ⟨b6, 0, none⟩)), (7, .pointer (some ⟨b10, 0, none⟩)), (8, .pointer (some ⟨b15, 0, none⟩)), (12, .int .i64 (L.getD i.toNat 0)), (34, vl), (35, .int .i64 (L.length : Int)), (36, .int .i64 i), (64, .bool (decide (u = (E.getD (L.getD i.toNat 0).toNat (0, 0)).2)))] ((0 < Try.prog.cellsOf 22) ∧ (CellOk (On w57) b2 (0 + 1) (ve)) ∧ (True) ∧ ((Try.prog.info? 99).isSome = true ∧ IdxOk ve (L.getD i.toNat 0)) ∧ (0 < Try.prog.cellsOf 3) ∧ (CellOk (On w57) (hdB ve) (hdO ve + (L.getD i.toNat 0).toNat * 2 + 1) (.int .i64 ((E.getD (L.getD i.toNat 0).toNat (0, 0)).2))) ∧ (True) ∧ (True) ∧ True) hA H ⟨by decide +kernel, by exact box_cell H 7 rfl 1, trivial, ⟨by kernel_rfl, by exact idx_ok (H.arg hE) (by omega) (by omega)⟩, by decide +kernel, by exact cell_flat (i := (L.getD i.toNat 0)) (H.arg hE) (by omega) (by omega) (0, 0) 1, trivial, trivial, trivial⟩ fun a w64 hA H hG => ?_
        refine hK63 _ _ ?_
        refine go_cond hA (.tmp 64) (decide (u = (E.getD (L.getD i.toNat 0).toNat (0, 0)).2)) (fun hb65 => ?_) (fun hb65 => ?_)
        · have hhb65 := of_decide_eq_true hb65
          have H0 := H
          have hM0 := H0.keeps none (.inl rfl)
          refine region_mix (But w64 none) [0, 1, 2, 3, 4, 5, 6, 7, 8] 10 ?_
          replace H := H.drawn; have hD := But.drew w64 none
          generalize ({ w64 with drawn := w64.drawn + 1 } : World) = w66 at H hD ⊢
          refine m_take (n := 3) [0, 1, 2, 3, 4, 5, 6] #[true, true, true, true, true, true, true, false, false, false] [(72, (.map (some b13))), (74, ve), (78, .int .i64 ((E.getD (L.getD i.toNat 0).toNat (0, 0)).1))] [(3, .pointer (some ⟨b2, 0, none⟩)), (5, .pointer (some ⟨b6, 0, none⟩)), (7, .pointer (some ⟨b10, 0, none⟩)), (8, .pointer (some ⟨b15, 0, none⟩)), (34, vl), (35, .int .i64 (L.length : Int)), (36, .int .i64 i), (72, (.map (some b13))), (78, .int .i64 ((E.getD (L.getD i.toNat 0).toNat (0, 0)).1))] ((CellOk (But w64 none) b15 (0) ((.map (some b13)))) ∧ (0 < Try.prog.cellsOf 22) ∧ (CellOk (But w64 none) b2 (0 + 1) (ve)) ∧ (True) ∧ ((Try.prog.info? 99).isSome = true ∧ IdxOk ve (L.getD i.toNat 0)) ∧ (0 < Try.prog.cellsOf 3) ∧ (CellOk (But w64 none) (hdB ve) (hdO ve + (L.getD i.toNat 0).toNat * 2 + 0) (.int .i64 ((E.getD (L.getD i.toNat 0).toNat (0, 0)).1))) ∧ True) hA hD ⟨by exact box_cellC (box_atC H0 none 4 rfl (fun e => by cases e)) 0, by decide +kernel, by exact box_cellC (box_atC H0 none 7 rfl (fun e => by cases e)) 1, trivial, ⟨by kernel_rfl, by exact idx_ok (H0.argT hE) (by omega) (by omega)⟩, by decide +kernel, by exact cell_flatC hM0 (i := (L.getD i.toNat 0)) (H0.argT hE) (by omega) (by omega) (0, 0) 0, trivial⟩ fun a hA => ?_
          refine m_one 7 ?_; refine q_one 7 [(79, .int .i64 ((lastAt m ((E.getD (L.getD i.toNat 0).toNat (0, 0)).1)).getD 0))] [(3, .pointer (some ⟨b2, 0, none⟩)), (5, .pointer (some ⟨b6, 0, none⟩)), (7, .pointer (some ⟨b10, 0, none⟩)), (8, .pointer (some ⟨b15, 0, none⟩)), (34, vl), (35, .int .i64 (L.length : Int)), (36, .int .i64 i), (72, (.map (some b13))), (78, .int .i64 ((E.getD (L.getD i.toNat 0).toNat (0, 0)).1)), (79, .int .i64 ((lastAt m ((E.getD (L.getD i.toNat 0).toNat (0, 0)).1)).getD 0))] ((∀ w', On w66 w' → (Instr.lookup 130 (.map (some b13)) (.int .i64 ((E.getD (L.getD i.toNat 0).toNat (0, 0)).1)) false).run Try.prog w' = .ok (.int .i64 ((lastAt m ((E.getD (L.getD i.toNat 0).toNat (0, 0)).1)).getD 0)) w') ∧ True) hA H ⟨by exact mapN_look H 0 rfl (obj_on H 0 rfl) ⟨by omega, by omega⟩ Try.underlying130 Try.underlying3 (fun w => by kernel_rfl), trivial⟩ fun a w67 H hA hG => ?_
          replace hD := hD.below hG
          refine ⟨fun _ => hD, ?_⟩
          refine m_take (n := 1) [8] #[true, true, true, true, true, true, true, true, true, false] [] [(3, .pointer (some ⟨b2, 0, none⟩)), (5, .pointer (some ⟨b6, 0, none⟩)), (7, .pointer (some ⟨b10, 0, none⟩)), (8, .pointer (some ⟨b15, 0, none⟩)), (34, vl), (35, .int .i64 (L.length : Int)), (36, .int .i64 i), (72, (.map (some b13))), (78, .int .i64 ((E.getD (L.getD i.toNat 0).toNat (0, 0)).1)), (80, .int .i64 (((lastAt m ((E.getD (L.getD i.toNat 0).toNat (0, 0)).1)).getD 0) + 1))] ((InR .i64 (((lastAt m ((E.getD (L.getD i.toNat 0).toNat (0, 0)).1)).getD 0) + 1)) ∧ True) hA hD ⟨⟨by omega, by omega⟩, trivial⟩ fun a hA => ?_
          refine m_one 9 ?_; refine q_mapUpdateN 9 130 (.tmp 72) (.tmp 78) (.tmp 80) 0 b13 m ((E.getD (L.getD i.toNat 0).toNat (0, 0)).1) (((lastAt m ((E.getD (L.getD i.toNat 0).toNat (0, 0)).1)).getD 0) + 1) [(3, .pointer (some ⟨b2, 0, none⟩)), (5, .pointer (some ⟨b6, 0, none⟩)), (7, .pointer (some ⟨b10, 0, none⟩)), (8, .pointer (some ⟨b15, 0, none⟩)), (34, vl), (35, .int .i64 (L.length : Int)), (36, .int .i64 i)] hA H rfl ⟨by omega, by omega⟩ (by (try simp only [List.length_append, List.length_cons, List.length_nil]); omega) Try.underlying130 Try.underlying3 fun a w68 H hA hG => ?_
          replace H : Fr _ _ _ [mapN Try.prog 3 b13 (m ++ [((E.getD (L.getD i.toNat 0).toNat (0, 0)).1, ((lastAt m ((E.getD (L.getD i.toNat 0).toNat (0, 0)).1)).getD 0) + 1)]), .row 3 vb lb, .row 3 va la, .box b10 29 [va, vb], .box b15 130 [(.map (some b13))], .box b6 3 [.int .i64 u], .box b4 29 [vv, vl], .box b2 24 [.int .i64 n, ve]] := H
          refine ⟨fun h => absurd h (by decide), ?_⟩
          refine m_end ?_
          refine hK51 _ _ ?_
          refine q_reg [] [(3, .pointer (some ⟨b2, 0, none⟩)), (5, .pointer (some ⟨b6, 0, none⟩)), (7, .pointer (some ⟨b10, 0, none⟩)), (8, .pointer (some ⟨b15, 0, none⟩)), (34, vl), (35, .int .i64 (L.length : Int)), (36, .int .i64 (i + 1))] ((InR .i64 (i + 1)) ∧ (True) ∧ True) hA H ⟨⟨by omega, by omega⟩, trivial, trivial⟩ fun a w69 hA H hG => ?_
          refine ⟨(i + 1, m ++ [((E.getD (L.getD i.toNat 0).toNat (0, 0)).1, ((lastAt m ((E.getD (L.getD i.toNat 0).toNat (0, 0)).1)).getD 0) + 1)], vb, lb), ⟨env_sub _ hA, ⟨_, H⟩, ?_⟩, ?_⟩
          · (try dsimp only); exact ⟨by omega, by omega, by (try simp only [List.length_append, List.length_cons, List.length_nil]); omega, by (try simp only [List.length_append, List.length_cons, List.length_nil]); omega, fun v => by rw [othE_snoc h0 (by omega), if_neg hhb58, if_pos hhb65]; exact cnt_put hm _ v, by rw [hi, leftE_snoc h0 (by omega), if_neg hhb58, if_pos hhb65, List.append_nil]⟩
          · (try dsimp only); omega
        · have hhb65 := of_decide_eq_false hb65
          refine region_list ?_
          refine q_list 0 3 [(42, vb)] [(3, .pointer (some ⟨b2, 0, none⟩)), (5, .pointer (some ⟨b6, 0, none⟩)), (7, .pointer (some ⟨b10, 0, none⟩)), (8, .pointer (some ⟨b15, 0, none⟩)), (34, vl), (35, .int .i64 (L.length : Int)), (36, .int .i64 i), (42, vb), (43, .int .i64 (L.getD i.toNat 0))] ((0 < Try.prog.cellsOf 27) ∧ (CellOk (On w64) b10 (0 + 1) (vb)) ∧ (True) ∧ True) hA H ⟨by decide +kernel, by exact box_cell H 3 rfl 1, trivial, trivial⟩ fun a w70 hA H hG => ?_
          refine list_at 3 ?_; refine q_lit 3 44 27 1 #[(0, .tmp 43)] 3 [(0, .int .i64 (L.getD i.toNat 0))] [.int .i64 (L.getD i.toNat 0)] [(3, .pointer (some ⟨b2, 0, none⟩)), (5, .pointer (some ⟨b6, 0, none⟩)), (7, .pointer (some ⟨b10, 0, none⟩)), (8, .pointer (some ⟨b15, 0, none⟩)), (34, vl), (35, .int .i64 (L.length : Int)), (36, .int .i64 i), (42, vb)] hA H fun b71 a w72 H hA hG hge_b71 => ?_
          clear hge_b71
          refine list_at 4 ?_; refine q_push 4 45 (.tmp 42) (.tmp 44) 2 0 b71 1 1 vb lb [(L.getD i.toNat 0)] [.int .i64 (L.getD i.toNat 0)] [(3, .pointer (some ⟨b2, 0, none⟩)), (5, .pointer (some ⟨b6, 0, none⟩)), (7, .pointer (some ⟨b10, 0, none⟩)), (8, .pointer (some ⟨b15, 0, none⟩)), (34, vl), (35, .int .i64 (L.length : Int)), (36, .int .i64 i)] hA H Try.E27 rfl rfl (by exact (RowRd.single (α := Int) rfl)) rfl (by simp only [List.length_cons, List.length_nil, List.length_append]; omega) (by decide) fun v73 a w74 H hA hG => ?_
          replace H : Fr _ _ _ [mapN Try.prog 3 b13 m, .row 3 v73 (lb ++ [(L.getD i.toNat 0)]), .row 3 va la, .box b10 29 [va, vb], .box b15 130 [(.map (some b13))], .box b6 3 [.int .i64 u], .box b4 29 [vv, vl], .box b2 24 [.int .i64 n, ve]] := H.drop 0
          refine q_list 5 1 [] [(3, .pointer (some ⟨b2, 0, none⟩)), (5, .pointer (some ⟨b6, 0, none⟩)), (7, .pointer (some ⟨b10, 0, none⟩)), (8, .pointer (some ⟨b15, 0, none⟩)), (34, vl), (35, .int .i64 (L.length : Int)), (36, .int .i64 i), (45, v73), (46, .pointer (some ⟨b10, 0 + 1, none⟩))] ((0 < Try.prog.cellsOf 27) ∧ True) hA H ⟨by decide +kernel, trivial⟩ fun a w75 hA H hG => ?_
          refine list_at 6 ?_; refine q_store 6 27 (.tmp 46) (.tmp 45) 3 b10 (0 + 1) 29 [va, vb] [v73] [va, v73] v73 [(3, .pointer (some ⟨b2, 0, none⟩)), (5, .pointer (some ⟨b6, 0, none⟩)), (7, .pointer (some ⟨b10, 0, none⟩)), (8, .pointer (some ⟨b15, 0, none⟩)), (34, vl), (35, .int .i64 (L.length : Int)), (36, .int .i64 i)] hA H rfl (one_cells (rd_one (H.out 1 rfl))) (Nat.le_of_ble_eq_true (by kernel_rfl)) rfl (fun v hv => by simp only [List.mem_cons, List.not_mem_nil, or_false] at hv; rcases hv with rfl; exact (rd_one (H.out 1 rfl))) fun a w76 H hA hG => ?_
          replace H : Fr _ _ _ [mapN Try.prog 3 b13 m, .row 3 v73 (lb ++ [(L.getD i.toNat 0)]), .row 3 va la, .box b10 29 [va, v73], .box b15 130 [(.map (some b13))], .box b6 3 [.int .i64 u], .box b4 29 [vv, vl], .box b2 24 [.int .i64 n, ve]] := H
          refine list_end ?_
          refine hK51 _ _ ?_
          refine q_reg [] [(3, .pointer (some ⟨b2, 0, none⟩)), (5, .pointer (some ⟨b6, 0, none⟩)), (7, .pointer (some ⟨b10, 0, none⟩)), (8, .pointer (some ⟨b15, 0, none⟩)), (34, vl), (35, .int .i64 (L.length : Int)), (36, .int .i64 (i + 1))] ((InR .i64 (i + 1)) ∧ (True) ∧ True) hA H ⟨⟨by omega, by omega⟩, trivial, trivial⟩ fun a w77 hA H hG => ?_
          refine ⟨(i + 1, m, v73, lb ++ [(L.getD i.toNat 0)]), ⟨env_sub _ hA, ⟨_, H⟩, ?_⟩, ?_⟩
          · (try dsimp only); exact ⟨by omega, by omega, by (try simp only [List.length_append, List.length_cons, List.length_nil]); omega, by (try simp only [List.length_append, List.length_cons, List.length_nil]); omega, fun v => by rw [othE_snoc h0 (by omega), if_neg hhb58, if_neg hhb65, List.append_nil]; exact hm v, by rw [hi, leftE_snoc h0 (by omega), if_neg hhb58, if_neg hhb65]⟩
          · (try dsimp only); omega
    · have hhb50 := of_decide_eq_false hb50
      refine go_exit 2 ?_
      refine hK42 _ _ ?_
      refine go_seq fun K78 hK78 => ?_
      have hm9 := hm; rw [List.take_of_length_le (by omega)] at hm9 hi
      have hce := cutsE_len n E (butV u V) (leftE E u L)
      have hbv := butV_len u V
      rw [List.take_of_length_le (by omega)] at hv9; rw [hi, hv9] at H
      replace H : Fr _ _ _ [mapN Try.prog 3 b13 m, .row 3 vb (leftE E u L), .row 3 va (butV u V), .box b10 29 [va, vb], .box b15 130 [(.map (some b13))], .box b6 3 [.int .i64 u], .box b4 29 [vv, vl], .box b2 24 [.int .i64 n, ve]] := H
      refine region_list ?_
      refine q_list 0 2 [(83, .agg #[.int .i64 n, ve]), (84, .agg #[va, vb])] [(5, .pointer (some ⟨b6, 0, none⟩)), (7, .pointer (some ⟨b10, 0, none⟩)), (8, .pointer (some ⟨b15, 0, none⟩)), (83, .agg #[.int .i64 n, ve]), (84, .agg #[va, vb])] (((Try.prog.info? 24).isSome = true ∧ RowOk (On w48) b2 (0) (Try.prog.cellsOf 24) #[.int .i64 n, ve]) ∧ ((Try.prog.info? 29).isSome = true ∧ RowOk (On w48) b10 (0) (Try.prog.cellsOf 29) #[va, vb]) ∧ True) hA H ⟨⟨by kernel_rfl, by exact box_row H 7 rfl 0 2⟩, ⟨by kernel_rfl, by exact box_row H 3 rfl 0 2⟩, trivial⟩ fun a w79 hA H hG => ?_
      refine list_at 2 ?_; refine q_call 2 85 48 #[.tmp 83, .tmp 84] #[24, 29] [.agg #[.int .i64 n, ve], .agg #[va, vb]] (fun S v_ w' => ∃ p_, v_ = .tuple #[p_, .int .i64 (partE n E (butV u V) (leftE E u L))] ∧ Rd S w' p_ ((cutsE n E (butV u V) (leftE E u L)))) [(5, .pointer (some ⟨b6, 0, none⟩)), (7, .pointer (some ⟨b10, 0, none⟩)), (8, .pointer (some ⟨b15, 0, none⟩))] hA H (by exact cuts_any n ve E va vb (butV u V) (leftE E u L) H.at (by omega) ((H.arg hE)) ((H.out 2 rfl)) ((H.out 1 rfl))) fun v80 a w81 S hR82 H hA hG => ?_
      obtain ⟨v80p, rfl, hR82p⟩ := hR82
      replace H := H.ro hR82p
      replace H : Fr _ _ _ [.ro v80p (cutsE n E (butV u V) (leftE E u L)), mapN Try.prog 3 b13 m, .row 3 vb (leftE E u L), .row 3 va (butV u V), .box b10 29 [va, vb], .box b15 130 [(.map (some b13))], .box b6 3 [.int .i64 u], .box b4 29 [vv, vl], .box b2 24 [.int .i64 n, ve]] := H
      refine q_list 3 3 [] [(5, .pointer (some ⟨b6, 0, none⟩)), (7, .pointer (some ⟨b10, 0, none⟩)), (8, .pointer (some ⟨b15, 0, none⟩)), (86, v80p), (87, .int .i64 (partE n E (butV u V) (leftE E u L)))] ((True) ∧ (True) ∧ (True) ∧ True) hA H ⟨trivial, trivial, trivial, trivial⟩ fun a w84 hA H hG => ?_
      refine list_at 6 ?_; refine q_alloc 6 13 27 [(.slice none 0 0)] [(5, .pointer (some ⟨b6, 0, none⟩)), (7, .pointer (some ⟨b10, 0, none⟩)), (8, .pointer (some ⟨b15, 0, none⟩)), (86, v80p), (87, .int .i64 (partE n E (butV u V) (leftE E u L)))] hA H fun b85 a w86 H hA hG hge_b85 => ?_
      clear hge_b85
      refine list_at 7 ?_; refine q_store 7 27 (.tmp 13) (.tmp 86) 0 b85 (0) 27 [(.slice none 0 0)] [v80p] [v80p] v80p [(5, .pointer (some ⟨b6, 0, none⟩)), (7, .pointer (some ⟨b10, 0, none⟩)), (8, .pointer (some ⟨b15, 0, none⟩)), (13, .pointer (some ⟨b85, 0, none⟩)), (87, .int .i64 (partE n E (butV u V) (leftE E u L)))] hA H rfl (one_cells (rd_one (H.get 1 rfl))) (Nat.le_of_ble_eq_true (by kernel_rfl)) rfl (fun v hv => by simp only [List.mem_cons, List.not_mem_nil, or_false] at hv; rcases hv with rfl; exact (rd_one (H.get 1 rfl))) fun a w87 H hA hG => ?_
      replace H : Fr _ _ _ [.box b85 27 [v80p], .ro v80p (cutsE n E (butV u V) (leftE E u L)), mapN Try.prog 3 b13 m, .row 3 vb (leftE E u L), .row 3 va (butV u V), .box b10 29 [va, vb], .box b15 130 [(.map (some b13))], .box b6 3 [.int .i64 u], .box b4 29 [vv, vl], .box b2 24 [.int .i64 n, ve]] := H
      refine q_list 8 1 [] [(5, .pointer (some ⟨b6, 0, none⟩)), (7, .pointer (some ⟨b10, 0, none⟩)), (8, .pointer (some ⟨b15, 0, none⟩)), (13, .pointer (some ⟨b85, 0, none⟩))] ((True) ∧ True) hA H ⟨trivial, trivial⟩ fun a w88 hA H hG => ?_
      refine list_end ?_
      refine hK78 _ _ ?_
      refine go_seq fun K89 hK89 => ?_
      refine region_list ?_
      refine q_list 0 2 [(89, va)] [(5, .pointer (some ⟨b6, 0, none⟩)), (8, .pointer (some ⟨b15, 0, none⟩)), (13, .pointer (some ⟨b85, 0, none⟩)), (89, va)] ((0 < Try.prog.cellsOf 27) ∧ (CellOk (On w88) b10 (0 + 0) (va)) ∧ True) hA H ⟨by decide +kernel, by exact box_cell H 5 rfl 0, trivial⟩ fun a w90 hA H hG => ?_
      refine list_at 2 ?_; refine q_funcN 2 90 114 [.tmp 5, .tmp 8, .tmp 13] [.pointer (some ⟨b6, 0, none⟩), .pointer (some ⟨b15, 0, none⟩), .pointer (some ⟨b85, 0, none⟩)] [(89, va)] hA fun a hA => ?_
      replace H := Fr.order [.box b85 27 [v80p], .ro v80p (cutsE n E (butV u V) (leftE E u L)), mapN Try.prog 3 b13 m, .row 3 vb (leftE E u L), .row 3 va (butV u V), .box b10 29 [va, vb], .box b15 130 [(.map (some b13))], .box b6 3 [.int .i64 u], .box b4 29 [vv, vl], .box b2 24 [.int .i64 n, ve]] [] H [4, 7, 6, 2, 0, 1, 3, 5, 8, 9] (by show List.Perm _ (List.range 10); decide)
      replace H : Fr _ _ _ [.row 3 va (butV u V), .box b6 3 [.int .i64 u], .box b15 130 [(.map (some b13))], mapN Try.prog 3 b13 m, .box b85 27 [v80p], .ro v80p (cutsE n E (butV u V) (leftE E u L)), .row 3 vb (leftE E u L), .box b10 29 [va, vb], .box b4 29 [vv, vl], .box b2 24 [.int .i64 n, ve]] := H
      refine list_at 3 ?_; refine q_any 3 91 113 #[.tmp 89, .tmp 90] #[27, 126] [va, .func (.func 114) #[] #[.pointer (some ⟨b6, 0, none⟩), .pointer (some ⟨b15, 0, none⟩), .pointer (some ⟨b85, 0, none⟩)]] _ [] hA (delrow_any 114 [.pointer (some ⟨b6, 0, none⟩), .pointer (some ⟨b15, 0, none⟩), .pointer (some ⟨b85, 0, none⟩)] (fun x => besideB n E V L u x) va (butV u V) o _ [.box b6 3 [.int .i64 u], .box b15 130 [(.map (some b13))], mapN Try.prog 3 b13 m, .box b85 27 [v80p], .ro v80p (cutsE n E (butV u V) (leftE E u L)), .row 3 vb (leftE E u L), .box b10 29 [va, vb], .box b4 29 [vv, vl], .box b2 24 [.int .i64 n, ve]] _ H (by omega) (fun x hx => hwv x (List.mem_filter.1 hx).1) callable_of (fun x w' S' l' hx H' => (bclos_any b6 b15 b13 b85 u m v80p (cutsE n E (butV u V) (leftE E u L)) x o S' (.row 3 va l' :: [.row 3 vb (leftE E u L), .box b10 29 [va, vb], .box b4 29 [vv, vl], .box b2 24 [.int .i64 n, ve]]) w' (H'.sink 1 5) hx (by omega)).mono fun e w2 ⟨q, he, hq, S2, H2⟩ => ⟨q, he, by rw [hq, beside_ok hm9], S2, H2.sink 5 1⟩)) fun v91 a w92 hR93 hA => ?_
      obtain ⟨S, H⟩ := hR93
      replace H : Fr _ _ _ [.row 3 v91 ((butV u V).filter (fun x => !(fun x => besideB n E V L u x) x)), .box b6 3 [.int .i64 u], .box b15 130 [(.map (some b13))], mapN Try.prog 3 b13 m, .box b85 27 [v80p], .ro v80p (cutsE n E (butV u V) (leftE E u L)), .row 3 vb (leftE E u L), .box b10 29 [va, vb], .box b4 29 [vv, vl], .box b2 24 [.int .i64 n, ve]] := H
      refine q_list 4 1 [] [(6, v91)] ((True) ∧ True) hA H ⟨trivial, trivial⟩ fun a w94 hA H hG => ?_
      refine list_end ?_
      refine hK89 _ _ ?_
      refine go_ret_ ?_
      refine ret_one 6 v91 hA ?_
      exact ⟨_, rfl, H.give 0 rfl, H.below⟩

end Go.Proofs.Ytahonnlgkmimlaa

set_option linter.unusedSimpArgs false
set_option linter.unusedVariables false
namespace Go.Proofs.Ytahonnlgkmimlaa
open Go.RowKit

theorem drop_roundD {α : Type} {l : List α} {i : Int} (d : α) (h0 : 0 ≤ i) (h : i < (l.length : Int)) : l.drop i.toNat = l.getD i.toNat d :: l.drop (i + 1).toNat := by
  have hi : i.toNat < l.length := by omega
  rw [List.drop_eq_getElem_cons hi, List.getD_eq_getElem?_getD, List.getElem?_eq_getElem hi, show (i + 1).toNat = i.toNat + 1 by omega]
  rfl
def willB (l : List Lk) (k : Int) : Bool := decide (2 ≤ k) && decide (2 ≤ (l.length : Int) - k)
/-- The vertices beside one. -/
def besK (l : List Lk) (u : Int) : List Int := besideE (wholeR l).1.1.1 (wholeR l).1.1.2 (wholeR l).1.2.1 (wholeR l).1.2.2 u
def candC (l : List Lk) (u v : Int) (cs : List (List Int)) : List (Int × Int × List Int) := (cs.filter fun c => willB l (c.length : Int)).map fun c => (u, v, c)
def candV (l : List Lk) (u : Int) (vs : List Int) : List (Int × Int × List Int) := vs.flatMap fun v => candC l u v (classesL l u v)
def candU (l : List Lk) (us : List Int) : List (Int × Int × List Int) := us.flatMap fun u => candV l u (besK l u)
/-- The first split, if there is one. -/
def firstK (l : List Lk) : Option (Int × Int × List Int) := if rightK l = true ∧ ringsB l = false then (candU l (wholeR l).1.2.1).head? else none
def firstD (l : List Lk) : Int × Int × List Int := (firstK l).getD (0, (0, []))
theorem candC_yes {l : List Lk} {u v : Int} {c : List Int} {cs : List (List Int)} (h : willB l (c.length : Int) = true) : candC l u v (c :: cs) = (u, v, c) :: candC l u v cs := by
  unfold candC; rw [List.filter_cons, if_pos h]; rfl
theorem candC_no {l : List Lk} {u v : Int} {c : List Int} {cs : List (List Int)} (h : willB l (c.length : Int) = false) : candC l u v (c :: cs) = candC l u v cs := by
  unfold candC; rw [List.filter_cons, if_neg (by rw [h]; decide)]
theorem candV_cons {l : List Lk} {u v : Int} {vs : List Int} : candV l u (v :: vs) = candC l u v (classesL l u v) ++ candV l u vs := by unfold candV; rw [List.flatMap_cons]
theorem candU_cons {l : List Lk} {u : Int} {us : List Int} : candU l (u :: us) = candV l u (besK l u) ++ candU l us := by unfold candU; rw [List.flatMap_cons]
theorem first_start {l : List Lk} (h1 : rightK l = true) (h2 : ringsB l = false) : (candU l ((wholeR l).1.2.1.drop (0 : Int).toNat)).head? = firstK l := by unfold firstK; rw [if_pos ⟨h1, h2⟩]; rfl
theorem first_u {l : List Lk} {V : List Int} {i : Int} {X : Option (Int × Int × List Int)} (h : (candU l (V.drop i.toNat)).head? = X) (h0 : 0 ≤ i) (h1 : i < (V.length : Int)) :
    (candV l (V.getD i.toNat 0) ((besK l (V.getD i.toNat 0)).drop (0 : Int).toNat) ++ candU l (V.drop (i + 1).toNat)).head? = X := by
  rw [drop_roundD 0 h0 h1, candU_cons] at h; exact h
theorem first_v {l : List Lk} {B : List Int} {j u : Int} {r : List (Int × Int × List Int)} {X : Option (Int × Int × List Int)} (h : (candV l u (B.drop j.toNat) ++ r).head? = X) (h0 : 0 ≤ j) (h1 : j < (B.length : Int)) :
    (candC l u (B.getD j.toNat 0) ((classesL l u (B.getD j.toNat 0)).drop (0 : Int).toNat) ++ (candV l u (B.drop (j + 1).toNat) ++ r)).head? = X := by
  rw [drop_roundD 0 h0 h1, candV_cons, List.append_assoc] at h; exact h
theorem first_c {l : List Lk} {C : List (List Int)} {k u v : Int} {r : List (Int × Int × List Int)} {X : Option (Int × Int × List Int)} (h : (candC l u v (C.drop k.toNat) ++ r).head? = X) (h0 : 0 ≤ k) (h1 : k < (C.length : Int)) (hn : willB l ((C.getD k.toNat []).length : Int) = false) :
    (candC l u v (C.drop (k + 1).toNat) ++ r).head? = X := by
  rw [drop_roundD [] h0 h1, candC_no hn] at h; exact h
theorem first_hit {l : List Lk} {C : List (List Int)} {k u v : Int} {r : List (Int × Int × List Int)} {X : Option (Int × Int × List Int)} (h : (candC l u v (C.drop k.toNat) ++ r).head? = X) (h0 : 0 ≤ k) (h1 : k < (C.length : Int)) (hn : willB l ((C.getD k.toNat []).length : Int) = true) :
    X = some (u, v, C.getD k.toNat []) := by
  rw [drop_roundD [] h0 h1, candC_yes hn] at h; exact h.symm
theorem first_cend {l : List Lk} {C : List (List Int)} {k u v : Int} {r : List (Int × Int × List Int)} {X : Option (Int × Int × List Int)} (h : (candC l u v (C.drop k.toNat) ++ r).head? = X) (h1 : (C.length : Int) ≤ k) : r.head? = X := by
  rw [List.drop_of_length_le (by omega)] at h; exact h
theorem first_vend {l : List Lk} {B : List Int} {j u : Int} {r : List (Int × Int × List Int)} {X : Option (Int × Int × List Int)} (h : (candV l u (B.drop j.toNat) ++ r).head? = X) (h1 : (B.length : Int) ≤ j) : r.head? = X := by
  rw [List.drop_of_length_le (by omega)] at h; exact h
theorem first_uend {l : List Lk} {V : List Int} {i : Int} {X : Option (Int × Int × List Int)} (h : (candU l (V.drop i.toNat)).head? = X) (h1 : (V.length : Int) ≤ i) : X = none := by
  rw [List.drop_of_length_le (by omega)] at h; exact h.symm
theorem first_no {l : List Lk} (h : ((wholeR l).2 = false ∨ solidB (wholeR l).1.1.1 (wholeR l).1.1.2 (wholeR l).1.2.1 (wholeR l).1.2.2 = false) ∨ ringsB l = true) : firstK l = none := by
  unfold firstK
  refine if_neg fun q => ?_
  obtain ⟨q1, q2⟩ := q
  unfold rightK at q1
  rw [Bool.and_eq_true] at q1
  rcases h with (h | h) | h
  · rw [q1.1] at h; cases h
  · rw [q1.2] at h; cases h
  · rw [q2] at h; cases h
theorem first_giv {l : List Lk} {S : Stab} {w : World} {sd : Value} {x : Int × Int × List Int} (hf : firstK l = some x) (h : Rd S w sd x.2.2) : ∃ sd', (Value.tuple #[.agg #[.int .i64 x.1, .int .i64 x.2.1, sd], .bool true]) = .tuple #[.agg #[.int .i64 (firstD l).1, .int .i64 (firstD l).2.1, sd'], .bool (firstK l).isSome] ∧ Rd S w sd' (firstD l).2.2 := by
  unfold firstD; rw [hf]; exact ⟨sd, rfl, h⟩
theorem first_nil {l : List Lk} {S : Stab} {w : World} (hf : firstK l = none) : ∃ sd', (Value.tuple #[.agg #[.int .i64 0, .int .i64 0, .slice none 0 0], .bool false]) = .tuple #[.agg #[.int .i64 (firstD l).1, .int .i64 (firstD l).2.1, sd'], .bool (firstK l).isSome] ∧ Rd S w sd' (firstD l).2.2 := by
  unfold firstD; rw [hf]; exact ⟨_, rfl, rd_nil⟩
structure WhF (l : List Lk) : Prop where
  wh : okWh l
  part : partE (wholeR l).1.1.1 (wholeR l).1.1.2 (wholeR l).1.2.1 (wholeR l).1.2.2 = 0
  vb : ∀ x ∈ (wholeR l).1.2.1, 0 ≤ x ∧ x < 1024
  lb : ∀ j, j < (wholeR l).1.2.2.length → 0 ≤ (wholeR l).1.2.2.getD j 0 ∧ (wholeR l).1.2.2.getD j 0 < ((wholeR l).1.1.2.length : Int)
  eb : ∀ j, j < (wholeR l).1.1.2.length → wfI ((wholeR l).1.1.2.getD j (0, 0)).1 ∧ wfI ((wholeR l).1.1.2.getD j (0, 0)).2
  vl : (wholeR l).1.2.1.length ≤ 1024
  ll : (wholeR l).1.2.2.length ≤ 1024
theorem whole_facts {l : List Lk} (h1 : (wholeR l).2 = true) (h2 : solidB (wholeR l).1.1.1 (wholeR l).1.1.2 (wholeR l).1.2.1 (wholeR l).1.2.2 = true) : WhF l := by
  have hw : okWh l := Classical.byContradiction fun q => by unfold wholeR at h1; rw [if_neg q] at h1; cases h1
  have hp : partE (wholeR l).1.1.1 (wholeR l).1.1.2 (wholeR l).1.2.1 (wholeR l).1.2.2 = 0 := by
    unfold solidB at h2; simp only [Bool.and_eq_true, decide_eq_true_eq] at h2; exact h2.1.1
  obtain ⟨p1, p2, p3, p4⟩ := part_iff.1 hp
  obtain ⟨q1, q2, q3, q4⟩ := rightE_0 p1
  have r1 := rises_len p2 q1
  have r2 := rises_len p3 (by omega)
  refine ⟨hw, hp, fun x hx => ?_, fun j hj => ?_, fun j hj => ?_, by omega, by omega⟩
  · have := (rises_iff.1 p2).2 x hx; omega
  · have := p3 j hj; exact ⟨this.1, this.2.1⟩
  · have := q4 j hj; unfold okE at this; unfold wfI; omega
theorem besK_sub {l : List Lk} {u v : Int} (h : v ∈ besK l u) : v ∈ (wholeR l).1.2.1 := (List.mem_filter.1 (List.mem_filter.1 h).1).1
theorem besK_len (l : List Lk) (u : Int) : (besK l u).length ≤ (wholeR l).1.2.1.length := Nat.le_trans (List.length_filter_le _ _) (List.length_filter_le _ _)
theorem classes_len (l : List Lk) (u v : Int) : (classesL l u v).length ≤ l.length := by
  unfold classesL groupsR
  rw [List.length_map]
  have h1 : (rootsTo (clR u v l) (l.length : Int)).length ≤ (upto (l.length : Int)).length := List.length_filter_le _ _
  have h2 := upto_len (l.length : Int)
  omega
theorem class_len {l : List Lk} {u v : Int} {c : List Int} (h : c ∈ classesL l u v) : c.length ≤ l.length := by
  unfold classesL groupsR at h
  obtain ⟨r, _, rfl⟩ := List.mem_map.1 h
  have h1 : ((upto (l.length : Int)).filter fun j => decide (clR u v l j = r)).length ≤ (upto (l.length : Int)).length := List.length_filter_le _ _
  have h2 := upto_len (l.length : Int)
  omega
/-- The kind of links. -/
def kindK (l : List Lk) : Int := if rightK l = false then 0 else if l.length = 1 then 0 else if ringsB l = true then 1 else if (vertsL l).length = 2 then 2 else if (firstK l).isSome = true then 4 else 3
end Go.Proofs.Ytahonnlgkmimlaa

set_option linter.unusedSimpArgs false
set_option linter.unusedVariables false
namespace Go.Proofs.Ytahonnlgkmimlaa
open Go.RowKit

set_option maxRecDepth 100000 in
set_option maxHeartbeats 8000000 in
theorem first_any (vl : Value) (l : List (Int × Int × Int)) (o : Orig) (hL : Rd (· < o.w.heap.size) o.w vl l) (hs : l.length ≤ 100000) (hwf : WfL l) :
  Calls Try.prog 65 [vl].toArray o.w (Giv o (fun S v w' => ∃ sd, v = .tuple #[.agg #[.int .i64 (firstD l).1, .int .i64 (firstD l).2.1, sd], .bool (firstK l).isSome] ∧ Rd S w' sd (firstD l).2.2)) := by
  have hwb := whole_bd l
  have hwc := whole_len (l := l) (by omega)
  refine enter Try.f65 69 Try.func65 fun a hA => ?_
  replace hA := env_sub [(0, vl)] hA
  have H := Fr.start o
  refine go_seq fun K1 hK1 => ?_
  refine region_list ?_
  refine list_at 0 ?_; refine q_alloc 0 2 81 [.int .i64 0, .int .i64 0, (.slice none 0 0)] [(0, vl)] hA H fun b2 a w3 H hA hG hge_b2 => ?_
  clear hge_b2
  refine q_list 1 1 [] [(0, vl), (2, .pointer (some ⟨b2, 0, none⟩))] ((True) ∧ True) hA H ⟨trivial, trivial⟩ fun a w4 hA H hG => ?_
  refine list_end ?_
  refine hK1 _ _ ?_
  refine go_seq fun K5 hK5 => ?_
  refine region_list ?_
  refine q_list 0 1 [] [(0, vl), (2, .pointer (some ⟨b2, 0, none⟩)), (14, vl)] ((True) ∧ True) hA H ⟨trivial, trivial⟩ fun a w6 hA H hG => ?_
  refine list_at 1 ?_; refine q_call 1 15 87 #[.tmp 14] #[69] [vl] _ [(0, vl), (2, .pointer (some ⟨b2, 0, none⟩))] hA H (by exact pwhole_any vl l H.at ((H.arg hL)) (by omega) hwf) fun v7 a w8 S hR9 H hA hG => ?_
  obtain ⟨v7g, v7p, rfl, hR9g, hR9p⟩ := hR9
  obtain ⟨v7e, rfl, hR9e⟩ := gp_rd hR9g; obtain ⟨v7a, v7b, rfl, hR9a, hR9b⟩ := two_rd hR9p
  replace H := H.ro hR9e; replace H := H.ro hR9a; replace H := H.ro hR9b
  replace H : Fr _ _ _ [.ro v7b ((wholeR l).1.2.2), .ro v7a ((wholeR l).1.2.1), .ro v7e ((wholeR l).1.1.2), .box b2 81 [.int .i64 0, .int .i64 0, (.slice none 0 0)]] := H
  refine q_list 2 4 [] [(0, vl), (2, .pointer (some ⟨b2, 0, none⟩)), (16, .agg #[.int .i64 ((wholeR l).1.1.1), v7e]), (17, .agg #[v7a, v7b]), (18, .bool ((wholeR l).2))] ((True) ∧ (True) ∧ (True) ∧ (True) ∧ True) hA H ⟨trivial, trivial, trivial, trivial, trivial⟩ fun a w13 hA H hG => ?_
  refine list_at 6 ?_; refine q_alloc 6 4 24 [.int .i64 0, (.slice none 0 0)] [(0, vl), (2, .pointer (some ⟨b2, 0, none⟩)), (16, .agg #[.int .i64 ((wholeR l).1.1.1), v7e]), (17, .agg #[v7a, v7b]), (18, .bool ((wholeR l).2))] hA H fun b14 a w15 H hA hG hge_b14 => ?_
  clear hge_b14
  refine list_at 7 ?_; refine q_alloc 7 5 29 [(.slice none 0 0), (.slice none 0 0)] [(0, vl), (2, .pointer (some ⟨b2, 0, none⟩)), (4, .pointer (some ⟨b14, 0, none⟩)), (16, .agg #[.int .i64 ((wholeR l).1.1.1), v7e]), (17, .agg #[v7a, v7b]), (18, .bool ((wholeR l).2))] hA H fun b16 a w17 H hA hG hge_b16 => ?_
  clear hge_b16
  refine list_at 8 ?_; refine q_store 8 24 (.tmp 4) (.tmp 16) 1 b14 (0) 24 [.int .i64 0, (.slice none 0 0)] [.int .i64 ((wholeR l).1.1.1), v7e] [.int .i64 ((wholeR l).1.1.1), v7e] (.agg #[.int .i64 ((wholeR l).1.1.1), v7e]) [(0, vl), (2, .pointer (some ⟨b2, 0, none⟩)), (4, .pointer (some ⟨b14, 0, none⟩)), (5, .pointer (some ⟨b16, 0, none⟩)), (17, .agg #[v7a, v7b]), (18, .bool ((wholeR l).2))] hA H rfl rfl (Nat.le_of_ble_eq_true (by kernel_rfl)) rfl (fun v hv => by simp only [List.mem_cons, List.not_mem_nil, or_false] at hv; rcases hv with rfl | rfl; exact rfl; exact (rd_one (H.get 4 rfl))) fun a w18 H hA hG => ?_
  replace H : Fr _ _ _ [.box b16 29 [(.slice none 0 0), (.slice none 0 0)], .box b14 24 [.int .i64 ((wholeR l).1.1.1), v7e], .ro v7b ((wholeR l).1.2.2), .ro v7a ((wholeR l).1.2.1), .ro v7e ((wholeR l).1.1.2), .box b2 81 [.int .i64 0, .int .i64 0, (.slice none 0 0)]] := H
  refine list_at 9 ?_; refine q_store 9 29 (.tmp 5) (.tmp 17) 0 b16 (0) 29 [(.slice none 0 0), (.slice none 0 0)] [v7a, v7b] [v7a, v7b] (.agg #[v7a, v7b]) [(0, vl), (2, .pointer (some ⟨b2, 0, none⟩)), (4, .pointer (some ⟨b14, 0, none⟩)), (5, .pointer (some ⟨b16, 0, none⟩)), (18, .bool ((wholeR l).2))] hA H rfl rfl (Nat.le_of_ble_eq_true (by kernel_rfl)) rfl (fun v hv => by simp only [List.mem_cons, List.not_mem_nil, or_false] at hv; rcases hv with rfl | rfl; exact (rd_one (H.get 3 rfl)); exact (rd_one (H.get 2 rfl))) fun a w19 H hA hG => ?_
  replace H : Fr _ _ _ [.box b16 29 [v7a, v7b], .box b14 24 [.int .i64 ((wholeR l).1.1.1), v7e], .ro v7b ((wholeR l).1.2.2), .ro v7a ((wholeR l).1.2.1), .ro v7e ((wholeR l).1.1.2), .box b2 81 [.int .i64 0, .int .i64 0, (.slice none 0 0)]] := H
  refine q_list 10 1 [] [(0, vl), (2, .pointer (some ⟨b2, 0, none⟩)), (4, .pointer (some ⟨b14, 0, none⟩)), (5, .pointer (some ⟨b16, 0, none⟩)), (6, .bool ((wholeR l).2))] ((True) ∧ True) hA H ⟨trivial, trivial⟩ fun a w20 hA H hG => ?_
  refine list_end ?_
  refine hK5 _ _ ?_
  refine go_seq fun K21 hK21 => ?_
  refine go_seq fun K22 hK22 => ?_
  refine q_reg [(22, .agg #[.int .i64 ((wholeR l).1.1.1), v7e]), (23, .agg #[v7a, v7b]), (24, .bool (solidB ((wholeR l).1.1.1) ((wholeR l).1.1.2) ((wholeR l).1.2.1) ((wholeR l).1.2.2))), (29, .bool (ringsB l))] [(0, vl), (2, .pointer (some ⟨b2, 0, none⟩)), (4, .pointer (some ⟨b14, 0, none⟩)), (5, .pointer (some ⟨b16, 0, none⟩)), (30, .bool (((!((wholeR l).2)) || (!(solidB ((wholeR l).1.1.1) ((wholeR l).1.1.2) ((wholeR l).1.2.1) ((wholeR l).1.2.2)))) || (ringsB l)))] ((True) ∧ (True) ∧ (True) ∧ ((!((wholeR l).2)) = false → (Try.prog.info? 24).isSome = true ∧ RowOk (On w20) b14 (0) (Try.prog.cellsOf 24) #[.int .i64 ((wholeR l).1.1.1), v7e]) ∧ ((!((wholeR l).2)) = false → (Try.prog.info? 29).isSome = true ∧ RowOk (On w20) b16 (0) (Try.prog.cellsOf 29) #[v7a, v7b]) ∧ ((!((wholeR l).2)) = false → Callable Try.prog 50 ∧ CallOk Try.prog (On w20) 50 [.agg #[.int .i64 ((wholeR l).1.1.1), v7e], .agg #[v7a, v7b]].toArray (.bool (solidB ((wholeR l).1.1.1) ((wholeR l).1.1.2) ((wholeR l).1.2.1) ((wholeR l).1.2.2)))) ∧ ((!((wholeR l).2)) = false → True) ∧ (True) ∧ (True) ∧ (((!((wholeR l).2)) || (!(solidB ((wholeR l).1.1.1) ((wholeR l).1.1.2) ((wholeR l).1.2.1) ((wholeR l).1.2.2)))) = false → True) ∧ (((!((wholeR l).2)) || (!(solidB ((wholeR l).1.1.1) ((wholeR l).1.1.2) ((wholeR l).1.2.1) ((wholeR l).1.2.2)))) = false → Callable Try.prog 90 ∧ CallOk Try.prog (On w20) 90 [vl].toArray (.bool (ringsB l))) ∧ (True) ∧ True) hA H ⟨trivial, trivial, trivial, fun _ => ⟨by kernel_rfl, by exact box_row H 1 rfl 0 2⟩, fun _ => ⟨by kernel_rfl, by exact box_row H 0 rfl 0 2⟩, fun hg0 => by replace hg0 := (nF hg0); exact ⟨callable_of, callOk_of fun w hw => by exact solid_any ((wholeR l).1.1.1) v7e ((wholeR l).1.1.2) v7a v7b ((wholeR l).1.2.1) ((wholeR l).1.2.2) w (by omega) (((H.on hw).get 4 rfl)) (((H.on hw).get 3 rfl)) (((H.on hw).get 2 rfl))⟩, fun _ => trivial, trivial, trivial, fun _ => trivial, fun hg0 => by replace hg0 := (⟨(nF ((oF hg0).1)), (nF ((oF hg0).2))⟩ : _ ∧ _); exact ⟨callable_of, callOk_of fun w hw => by exact rings_any vl l w (((H.on hw).arg hL)) (by omega) hwf⟩, trivial, trivial⟩ fun a w23 hA H hG => ?_
  refine hK22 _ _ ?_
  refine go_cond hA (.tmp 30) (((!((wholeR l).2)) || (!(solidB ((wholeR l).1.1.1) ((wholeR l).1.1.2) ((wholeR l).1.2.1) ((wholeR l).1.2.2)))) || (ringsB l)) (fun hb24 => ?_) (fun hb24 => ?_)
  · have hhb24 := (oT hb24).imp (fun h => (oT h).imp (fun h => (nT h)) (fun h => (nT h))) (fun h => h)
    refine go_seq fun K25 hK25 => ?_
    refine region_list ?_
    refine q_list 0 1 [(31, .agg #[.int .i64 0, .int .i64 0, (.slice none 0 0)])] [(2, .pointer (some ⟨b2, 0, none⟩)), (31, .agg #[.int .i64 0, .int .i64 0, (.slice none 0 0)])] ((∀ w, (Instr.build 81 #[]).run Try.prog w = .ok (.agg #[.int .i64 0, .int .i64 0, (.slice none 0 0)]) w) ∧ True) hA H ⟨fun w => by kernel_rfl, trivial⟩ fun a w26 hA H hG => ?_
    refine list_at 1 ?_; refine q_store 1 81 (.tmp 2) (.tmp 31) 5 b2 (0) 81 [.int .i64 0, .int .i64 0, (.slice none 0 0)] [.int .i64 0, .int .i64 0, (.slice none 0 0)] [.int .i64 0, .int .i64 0, (.slice none 0 0)] (.agg #[.int .i64 0, .int .i64 0, (.slice none 0 0)]) [(2, .pointer (some ⟨b2, 0, none⟩))] hA H rfl rfl (Nat.le_of_ble_eq_true (by kernel_rfl)) rfl (fun v hv => by simp only [List.mem_cons, List.not_mem_nil, or_false] at hv; rcases hv with rfl | rfl | rfl; exact rfl; exact rfl; exact rfl) fun a w27 H hA hG => ?_
    replace H : Fr _ _ _ [.box b16 29 [v7a, v7b], .box b14 24 [.int .i64 ((wholeR l).1.1.1), v7e], .ro v7b ((wholeR l).1.2.2), .ro v7a ((wholeR l).1.2.1), .ro v7e ((wholeR l).1.1.2), .box b2 81 [.int .i64 0, .int .i64 0, (.slice none 0 0)]] := H
    refine q_list 2 1 [] [(2, .pointer (some ⟨b2, 0, none⟩)), (3, .bool false)] ((True) ∧ True) hA H ⟨trivial, trivial⟩ fun a w28 hA H hG => ?_
    refine list_end ?_
    refine hK25 _ _ ?_
    refine go_ret_ ?_
    refine ret_cell2 2 3 81 5 b2 81 [.int .i64 0, .int .i64 0, (.slice none 0 0)] #[.int .i64 0, .int .i64 0, (.slice none 0 0)] (.bool false) hA H rfl ?_ (ht := ⟨_, Try.underlying81⟩)
    exact ⟨_, rfl, first_nil (first_no hhb24), H.below⟩
  · have hhb24 := (⟨(⟨(nF ((oF ((oF hb24).1)).1)), (nF ((oF ((oF hb24).1)).2))⟩ : _ ∧ _), (oF hb24).2⟩ : _ ∧ _)
    refine go_skip ?_
    refine hK21 _ _ ?_
    refine go_seq fun K29 hK29 => ?_
    refine go_seq fun K30 hK30 => ?_
    have hW := whole_facts hhb24.1.1 hhb24.1.2
    have hrk : rightK l = true := by unfold rightK; rw [hhb24.1.1, hhb24.1.2]; rfl
    have hrg : ringsB l = false := hhb24.2
    have hvl := hW.vl; have hll := hW.ll
    refine q_reg [(33, v7a), (34, .int .i64 (((wholeR l).1.2.1).length : Int))] [(0, vl), (2, .pointer (some ⟨b2, 0, none⟩)), (4, .pointer (some ⟨b14, 0, none⟩)), (5, .pointer (some ⟨b16, 0, none⟩)), (33, v7a), (34, .int .i64 (((wholeR l).1.2.1).length : Int)), (35, .int .i64 0)] ((0 < Try.prog.cellsOf 27) ∧ (CellOk (On w23) b16 (0 + 0) (v7a)) ∧ (LenOk v7a (((wholeR l).1.2.1).length : Int)) ∧ (True) ∧ True) hA H ⟨by decide +kernel, by exact box_cell H 0 rfl 0, by exact len_ok (H.get 3 rfl), trivial, trivial⟩ fun a w31 hA H hG => ?_
    refine hK30 _ _ ?_
    refine go_block 0 ?_
    refine go_loop_ (Int) (fun x_ a W => (fun (i : Int) => EnvOk 69 a (keepEnv [(0, vl), (2, .pointer (some ⟨b2, 0, none⟩)), (4, .pointer (some ⟨b14, 0, none⟩)), (5, .pointer (some ⟨b16, 0, none⟩)), (33, v7a), (34, .int .i64 (((wholeR l).1.2.1).length : Int)), (35, .int .i64 i)]) ∧ (∃ S, Fr o W S [.box b16 29 [v7a, v7b], .box b14 24 [.int .i64 ((wholeR l).1.1.1), v7e], .ro v7b ((wholeR l).1.2.2), .ro v7a ((wholeR l).1.2.1), .ro v7e ((wholeR l).1.1.2), .box b2 81 [.int .i64 0, .int .i64 0, (.slice none 0 0)]]) ∧ 0 ≤ i ∧ i ≤ ((wholeR l).1.2.1.length : Int) ∧ (candU l ((wholeR l).1.2.1.drop i.toNat)).head? = firstK l) x_) (fun x_ => (fun (i : Int) => (((wholeR l).1.2.1.length : Int) - i).toNat) x_) (0) ?_ (fun i a w33 hI => ?_)
    · (try dsimp only); exact ⟨env_sub _ hA, ⟨_, H⟩, by omega, by omega, first_start hrk hrg⟩
    obtain ⟨hA, ⟨S, H⟩, h0, h0b, hi⟩ := hI
    try dsimp only at h0 h0b hi
    refine go_seq fun K34 hK34 => ?_
    refine q_reg [] [(0, vl), (2, .pointer (some ⟨b2, 0, none⟩)), (4, .pointer (some ⟨b14, 0, none⟩)), (5, .pointer (some ⟨b16, 0, none⟩)), (33, v7a), (34, .int .i64 (((wholeR l).1.2.1).length : Int)), (35, .int .i64 i), (36, .bool (decide (i < (((wholeR l).1.2.1).length : Int))))] ((True) ∧ True) hA H ⟨trivial, trivial⟩ fun a w35 hA H hG => ?_
    refine hK34 _ _ ?_
    refine go_seq fun K36 hK36 => ?_
    refine go_cond hA (.tmp 36) (decide (i < (((wholeR l).1.2.1).length : Int))) (fun hb37 => ?_) (fun hb37 => ?_)
    · have hhb37 := of_decide_eq_true hb37
      refine go_skip ?_
      refine hK36 _ _ ?_
      refine go_seq fun K38 hK38 => ?_
      refine go_block 1 ?_
      refine go_seq fun K39 hK39 => ?_
      have hu9 := hW.vb _ (getD_mem (l := (wholeR l).1.2.1) (i := i.toNat) (d := 0) (by omega))
      have hbl := besK_len l ((wholeR l).1.2.1.getD i.toNat 0)
      refine q_reg [(38, .int .i64 (((wholeR l).1.2.1).getD i.toNat 0))] [(0, vl), (2, .pointer (some ⟨b2, 0, none⟩)), (4, .pointer (some ⟨b14, 0, none⟩)), (5, .pointer (some ⟨b16, 0, none⟩)), (8, .int .i64 (((wholeR l).1.2.1).getD i.toNat 0)), (33, v7a), (34, .int .i64 (((wholeR l).1.2.1).length : Int)), (35, .int .i64 i)] (((Try.prog.info? 3).isSome = true ∧ IdxOk v7a i) ∧ (CellOk (On w35) (hdB v7a) (hdO v7a + i.toNat * 1) (.int .i64 (((wholeR l).1.2.1).getD i.toNat 0))) ∧ (True) ∧ True) hA H ⟨⟨by kernel_rfl, by exact idx_ok (H.get 3 rfl) (by omega) (by omega)⟩, by exact cell_flat (i := i) (H.get 3 rfl) (by omega) (by omega) 0 0, trivial, trivial⟩ fun a w40 hA H hG => ?_
      refine hK39 _ _ ?_
      refine go_seq fun K41 hK41 => ?_
      refine region_list ?_
      refine q_list 0 3 [(39, .agg #[.int .i64 ((wholeR l).1.1.1), v7e]), (40, .agg #[v7a, v7b])] [(0, vl), (2, .pointer (some ⟨b2, 0, none⟩)), (4, .pointer (some ⟨b14, 0, none⟩)), (5, .pointer (some ⟨b16, 0, none⟩)), (8, .int .i64 (((wholeR l).1.2.1).getD i.toNat 0)), (33, v7a), (34, .int .i64 (((wholeR l).1.2.1).length : Int)), (35, .int .i64 i), (39, .agg #[.int .i64 ((wholeR l).1.1.1), v7e]), (40, .agg #[v7a, v7b]), (41, .int .i64 (((wholeR l).1.2.1).getD i.toNat 0))] (((Try.prog.info? 24).isSome = true ∧ RowOk (On w40) b14 (0) (Try.prog.cellsOf 24) #[.int .i64 ((wholeR l).1.1.1), v7e]) ∧ ((Try.prog.info? 29).isSome = true ∧ RowOk (On w40) b16 (0) (Try.prog.cellsOf 29) #[v7a, v7b]) ∧ (True) ∧ True) hA H ⟨⟨by kernel_rfl, by exact box_row H 1 rfl 0 2⟩, ⟨by kernel_rfl, by exact box_row H 0 rfl 0 2⟩, trivial, trivial⟩ fun a w42 hA H hG => ?_
      refine list_at 3 ?_; refine q_call 3 42 91 #[.tmp 39, .tmp 40, .tmp 41] #[24, 29, 3] [.agg #[.int .i64 ((wholeR l).1.1.1), v7e], .agg #[v7a, v7b], .int .i64 (((wholeR l).1.2.1).getD i.toNat 0)] (fun S v_ w' => Rd S w' v_ ((besK l (((wholeR l).1.2.1).getD i.toNat 0)))) [(0, vl), (2, .pointer (some ⟨b2, 0, none⟩)), (4, .pointer (some ⟨b14, 0, none⟩)), (5, .pointer (some ⟨b16, 0, none⟩)), (8, .int .i64 (((wholeR l).1.2.1).getD i.toNat 0)), (33, v7a), (34, .int .i64 (((wholeR l).1.2.1).length : Int)), (35, .int .i64 i)] hA H (by exact beside_any ((wholeR l).1.1.1) v7e ((wholeR l).1.1.2) v7a v7b ((wholeR l).1.2.1) ((wholeR l).1.2.2) (((wholeR l).1.2.1).getD i.toNat 0) H.at (by omega) ((H.get 4 rfl)) ((H.get 3 rfl)) ((H.get 2 rfl)) (by unfold wfI; omega) (fun x hx => by have := hW.vb x hx; unfold wfI; omega) hW.lb hW.eb (by omega) (by omega)) fun v43 a w44 S hR45 H hA hG => ?_
      replace H := H.ro hR45
      refine q_list 4 2 [(43, .int .i64 ((besK l (((wholeR l).1.2.1).getD i.toNat 0)).length : Int))] [(0, vl), (2, .pointer (some ⟨b2, 0, none⟩)), (4, .pointer (some ⟨b14, 0, none⟩)), (5, .pointer (some ⟨b16, 0, none⟩)), (8, .int .i64 (((wholeR l).1.2.1).getD i.toNat 0)), (33, v7a), (34, .int .i64 (((wholeR l).1.2.1).length : Int)), (35, .int .i64 i), (42, v43), (43, .int .i64 ((besK l (((wholeR l).1.2.1).getD i.toNat 0)).length : Int)), (44, .int .i64 0)] ((LenOk v43 ((besK l (((wholeR l).1.2.1).getD i.toNat 0)).length : Int)) ∧ (True) ∧ True) hA H ⟨by exact len_ok (H.get 0 rfl), trivial, trivial⟩ fun a w47 hA H hG => ?_
      refine list_end ?_
      refine hK41 _ _ ?_
      refine go_block 2 ?_
      refine go_loop_ (Int) (fun x_ a W => (fun (j : Int) => EnvOk 69 a (keepEnv [(0, vl), (2, .pointer (some ⟨b2, 0, none⟩)), (4, .pointer (some ⟨b14, 0, none⟩)), (5, .pointer (some ⟨b16, 0, none⟩)), (8, .int .i64 (((wholeR l).1.2.1).getD i.toNat 0)), (33, v7a), (34, .int .i64 (((wholeR l).1.2.1).length : Int)), (35, .int .i64 i), (42, v43), (43, .int .i64 ((besK l (((wholeR l).1.2.1).getD i.toNat 0)).length : Int)), (44, .int .i64 j)]) ∧ (∃ S, Fr o W S [.ro v43 (besK l (((wholeR l).1.2.1).getD i.toNat 0)), .box b16 29 [v7a, v7b], .box b14 24 [.int .i64 ((wholeR l).1.1.1), v7e], .ro v7b ((wholeR l).1.2.2), .ro v7a ((wholeR l).1.2.1), .ro v7e ((wholeR l).1.1.2), .box b2 81 [.int .i64 0, .int .i64 0, (.slice none 0 0)]]) ∧ 0 ≤ j ∧ j ≤ ((besK l ((wholeR l).1.2.1.getD i.toNat 0)).length : Int) ∧ (candV l ((wholeR l).1.2.1.getD i.toNat 0) ((besK l ((wholeR l).1.2.1.getD i.toNat 0)).drop j.toNat) ++ candU l ((wholeR l).1.2.1.drop (i + 1).toNat)).head? = firstK l) x_) (fun x_ => (fun (j : Int) => (((besK l ((wholeR l).1.2.1.getD i.toNat 0)).length : Int) - j).toNat) x_) (0) ?_ (fun j a w49 hI => ?_)
      · (try dsimp only); exact ⟨env_sub _ hA, ⟨_, H⟩, by omega, by omega, first_u hi h0 (by omega)⟩
      obtain ⟨hA, ⟨S, H⟩, j0, j0b, hj⟩ := hI
      try dsimp only at j0 j0b hj
      refine go_seq fun K50 hK50 => ?_
      refine q_reg [] [(0, vl), (2, .pointer (some ⟨b2, 0, none⟩)), (4, .pointer (some ⟨b14, 0, none⟩)), (5, .pointer (some ⟨b16, 0, none⟩)), (8, .int .i64 (((wholeR l).1.2.1).getD i.toNat 0)), (33, v7a), (34, .int .i64 (((wholeR l).1.2.1).length : Int)), (35, .int .i64 i), (42, v43), (43, .int .i64 ((besK l (((wholeR l).1.2.1).getD i.toNat 0)).length : Int)), (44, .int .i64 j), (45, .bool (decide (j < ((besK l (((wholeR l).1.2.1).getD i.toNat 0)).length : Int))))] ((True) ∧ True) hA H ⟨trivial, trivial⟩ fun a w51 hA H hG => ?_
      refine hK50 _ _ ?_
      refine go_seq fun K52 hK52 => ?_
      refine go_cond hA (.tmp 45) (decide (j < ((besK l (((wholeR l).1.2.1).getD i.toNat 0)).length : Int))) (fun hb53 => ?_) (fun hb53 => ?_)
      · have hhb53 := of_decide_eq_true hb53
        refine go_skip ?_
        refine hK52 _ _ ?_
        refine go_seq fun K54 hK54 => ?_
        refine go_block 3 ?_
        refine go_seq fun K55 hK55 => ?_
        have hv9 := hW.vb _ (besK_sub (getD_mem (l := (besK l ((wholeR l).1.2.1.getD i.toNat 0))) (i := j.toNat) (d := 0) (by omega)))
        have hcl := classes_len l ((wholeR l).1.2.1.getD i.toNat 0) ((besK l ((wholeR l).1.2.1.getD i.toNat 0)).getD j.toNat 0)
        refine q_reg [(47, .int .i64 ((besK l (((wholeR l).1.2.1).getD i.toNat 0)).getD j.toNat 0))] [(0, vl), (2, .pointer (some ⟨b2, 0, none⟩)), (4, .pointer (some ⟨b14, 0, none⟩)), (5, .pointer (some ⟨b16, 0, none⟩)), (8, .int .i64 (((wholeR l).1.2.1).getD i.toNat 0)), (10, .int .i64 ((besK l (((wholeR l).1.2.1).getD i.toNat 0)).getD j.toNat 0)), (33, v7a), (34, .int .i64 (((wholeR l).1.2.1).length : Int)), (35, .int .i64 i), (42, v43), (43, .int .i64 ((besK l (((wholeR l).1.2.1).getD i.toNat 0)).length : Int)), (44, .int .i64 j)] (((Try.prog.info? 3).isSome = true ∧ IdxOk v43 j) ∧ (CellOk (On w51) (hdB v43) (hdO v43 + j.toNat * 1) (.int .i64 ((besK l (((wholeR l).1.2.1).getD i.toNat 0)).getD j.toNat 0))) ∧ (True) ∧ True) hA H ⟨⟨by kernel_rfl, by exact idx_ok (H.get 0 rfl) (by omega) (by omega)⟩, by exact cell_flat (i := j) (H.get 0 rfl) (by omega) (by omega) 0 0, trivial, trivial⟩ fun a w56 hA H hG => ?_
        refine hK55 _ _ ?_
        refine go_seq fun K57 hK57 => ?_
        refine region_list ?_
        refine q_list 0 3 [] [(0, vl), (2, .pointer (some ⟨b2, 0, none⟩)), (4, .pointer (some ⟨b14, 0, none⟩)), (5, .pointer (some ⟨b16, 0, none⟩)), (8, .int .i64 (((wholeR l).1.2.1).getD i.toNat 0)), (10, .int .i64 ((besK l (((wholeR l).1.2.1).getD i.toNat 0)).getD j.toNat 0)), (33, v7a), (34, .int .i64 (((wholeR l).1.2.1).length : Int)), (35, .int .i64 i), (42, v43), (43, .int .i64 ((besK l (((wholeR l).1.2.1).getD i.toNat 0)).length : Int)), (44, .int .i64 j), (48, vl), (49, .int .i64 (((wholeR l).1.2.1).getD i.toNat 0)), (50, .int .i64 ((besK l (((wholeR l).1.2.1).getD i.toNat 0)).getD j.toNat 0))] ((True) ∧ (True) ∧ (True) ∧ True) hA H ⟨trivial, trivial, trivial, trivial⟩ fun a w58 hA H hG => ?_
        refine list_at 3 ?_; refine q_call 3 51 86 #[.tmp 48, .tmp 49, .tmp 50] #[69, 3, 3] [vl, .int .i64 (((wholeR l).1.2.1).getD i.toNat 0), .int .i64 ((besK l (((wholeR l).1.2.1).getD i.toNat 0)).getD j.toNat 0)] (fun S v_ w' => Rd S w' v_ ((classesL l (((wholeR l).1.2.1).getD i.toNat 0) ((besK l (((wholeR l).1.2.1).getD i.toNat 0)).getD j.toNat 0)))) [(0, vl), (2, .pointer (some ⟨b2, 0, none⟩)), (4, .pointer (some ⟨b14, 0, none⟩)), (5, .pointer (some ⟨b16, 0, none⟩)), (8, .int .i64 (((wholeR l).1.2.1).getD i.toNat 0)), (10, .int .i64 ((besK l (((wholeR l).1.2.1).getD i.toNat 0)).getD j.toNat 0)), (33, v7a), (34, .int .i64 (((wholeR l).1.2.1).length : Int)), (35, .int .i64 i), (42, v43), (43, .int .i64 ((besK l (((wholeR l).1.2.1).getD i.toNat 0)).length : Int)), (44, .int .i64 j)] hA H (by exact classes_any vl l (((wholeR l).1.2.1).getD i.toNat 0) ((besK l (((wholeR l).1.2.1).getD i.toNat 0)).getD j.toNat 0) H.at ((H.arg hL)) (by omega) (by omega) (by omega) (fun i h0 h1 => ⟨(hwf i h0 h1).1, (hwf i h0 h1).2.1⟩)) fun v59 a w60 S hR61 H hA hG => ?_
        replace H := H.ro hR61
        refine q_list 4 2 [(52, .int .i64 ((classesL l (((wholeR l).1.2.1).getD i.toNat 0) ((besK l (((wholeR l).1.2.1).getD i.toNat 0)).getD j.toNat 0)).length : Int))] [(0, vl), (2, .pointer (some ⟨b2, 0, none⟩)), (4, .pointer (some ⟨b14, 0, none⟩)), (5, .pointer (some ⟨b16, 0, none⟩)), (8, .int .i64 (((wholeR l).1.2.1).getD i.toNat 0)), (10, .int .i64 ((besK l (((wholeR l).1.2.1).getD i.toNat 0)).getD j.toNat 0)), (33, v7a), (34, .int .i64 (((wholeR l).1.2.1).length : Int)), (35, .int .i64 i), (42, v43), (43, .int .i64 ((besK l (((wholeR l).1.2.1).getD i.toNat 0)).length : Int)), (44, .int .i64 j), (51, v59), (52, .int .i64 ((classesL l (((wholeR l).1.2.1).getD i.toNat 0) ((besK l (((wholeR l).1.2.1).getD i.toNat 0)).getD j.toNat 0)).length : Int)), (53, .int .i64 0)] ((LenOk v59 ((classesL l (((wholeR l).1.2.1).getD i.toNat 0) ((besK l (((wholeR l).1.2.1).getD i.toNat 0)).getD j.toNat 0)).length : Int)) ∧ (True) ∧ True) hA H ⟨by exact len_ok (H.get 0 rfl), trivial, trivial⟩ fun a w63 hA H hG => ?_
        refine list_end ?_
        refine hK57 _ _ ?_
        refine go_block 4 ?_
        refine go_loop_ (Int) (fun x_ a W => (fun (k : Int) => EnvOk 69 a (keepEnv [(0, vl), (2, .pointer (some ⟨b2, 0, none⟩)), (4, .pointer (some ⟨b14, 0, none⟩)), (5, .pointer (some ⟨b16, 0, none⟩)), (8, .int .i64 (((wholeR l).1.2.1).getD i.toNat 0)), (10, .int .i64 ((besK l (((wholeR l).1.2.1).getD i.toNat 0)).getD j.toNat 0)), (33, v7a), (34, .int .i64 (((wholeR l).1.2.1).length : Int)), (35, .int .i64 i), (42, v43), (43, .int .i64 ((besK l (((wholeR l).1.2.1).getD i.toNat 0)).length : Int)), (44, .int .i64 j), (51, v59), (52, .int .i64 ((classesL l (((wholeR l).1.2.1).getD i.toNat 0) ((besK l (((wholeR l).1.2.1).getD i.toNat 0)).getD j.toNat 0)).length : Int)), (53, .int .i64 k)]) ∧ (∃ S, Fr o W S [.ro v59 (classesL l (((wholeR l).1.2.1).getD i.toNat 0) ((besK l (((wholeR l).1.2.1).getD i.toNat 0)).getD j.toNat 0)), .ro v43 (besK l (((wholeR l).1.2.1).getD i.toNat 0)), .box b16 29 [v7a, v7b], .box b14 24 [.int .i64 ((wholeR l).1.1.1), v7e], .ro v7b ((wholeR l).1.2.2), .ro v7a ((wholeR l).1.2.1), .ro v7e ((wholeR l).1.1.2), .box b2 81 [.int .i64 0, .int .i64 0, (.slice none 0 0)]]) ∧ 0 ≤ k ∧ k ≤ ((classesL l ((wholeR l).1.2.1.getD i.toNat 0) ((besK l ((wholeR l).1.2.1.getD i.toNat 0)).getD j.toNat 0)).length : Int) ∧ (candC l ((wholeR l).1.2.1.getD i.toNat 0) ((besK l ((wholeR l).1.2.1.getD i.toNat 0)).getD j.toNat 0) ((classesL l ((wholeR l).1.2.1.getD i.toNat 0) ((besK l ((wholeR l).1.2.1.getD i.toNat 0)).getD j.toNat 0)).drop k.toNat) ++ (candV l ((wholeR l).1.2.1.getD i.toNat 0) ((besK l ((wholeR l).1.2.1.getD i.toNat 0)).drop (j + 1).toNat) ++ candU l ((wholeR l).1.2.1.drop (i + 1).toNat))).head? = firstK l) x_) (fun x_ => (fun (k : Int) => (((classesL l ((wholeR l).1.2.1.getD i.toNat 0) ((besK l ((wholeR l).1.2.1.getD i.toNat 0)).getD j.toNat 0)).length : Int) - k).toNat) x_) (0) ?_ (fun k a w65 hI => ?_)
        · (try dsimp only); exact ⟨env_sub _ hA, ⟨_, H⟩, by omega, by omega, first_v hj j0 (by omega)⟩
        obtain ⟨hA, ⟨S, H⟩, k0, k0b, hk⟩ := hI
        try dsimp only at k0 k0b hk
        refine go_seq fun K66 hK66 => ?_
        refine q_reg [] [(0, vl), (2, .pointer (some ⟨b2, 0, none⟩)), (4, .pointer (some ⟨b14, 0, none⟩)), (5, .pointer (some ⟨b16, 0, none⟩)), (8, .int .i64 (((wholeR l).1.2.1).getD i.toNat 0)), (10, .int .i64 ((besK l (((wholeR l).1.2.1).getD i.toNat 0)).getD j.toNat 0)), (33, v7a), (34, .int .i64 (((wholeR l).1.2.1).length : Int)), (35, .int .i64 i), (42, v43), (43, .int .i64 ((besK l (((wholeR l).1.2.1).getD i.toNat 0)).length : Int)), (44, .int .i64 j), (51, v59), (52, .int .i64 ((classesL l (((wholeR l).1.2.1).getD i.toNat 0) ((besK l (((wholeR l).1.2.1).getD i.toNat 0)).getD j.toNat 0)).length : Int)), (53, .int .i64 k), (54, .bool (decide (k < ((classesL l (((wholeR l).1.2.1).getD i.toNat 0) ((besK l (((wholeR l).1.2.1).getD i.toNat 0)).getD j.toNat 0)).length : Int))))] ((True) ∧ True) hA H ⟨trivial, trivial⟩ fun a w67 hA H hG => ?_
        refine hK66 _ _ ?_
        refine go_seq fun K68 hK68 => ?_
        refine go_cond hA (.tmp 54) (decide (k < ((classesL l (((wholeR l).1.2.1).getD i.toNat 0) ((besK l (((wholeR l).1.2.1).getD i.toNat 0)).getD j.toNat 0)).length : Int))) (fun hb69 => ?_) (fun hb69 => ?_)
        · have hhb69 := of_decide_eq_true hb69
          refine go_skip ?_
          refine hK68 _ _ ?_
          refine go_seq fun K70 hK70 => ?_
          refine go_block 5 ?_
          refine go_seq fun K71 hK71 => ?_
          have hkl := class_len (getD_mem (l := (classesL l ((wholeR l).1.2.1.getD i.toNat 0) ((besK l ((wholeR l).1.2.1.getD i.toNat 0)).getD j.toNat 0))) (i := k.toNat) (d := []) (by omega))
          obtain ⟨uc, huc, hur⟩ := cell_sliceC (C := On w67) H.keepsS (H.getS 0 rfl) k
          have hur := hur k0 (by omega)
          replace H := H.ro hur
          replace H : Fr _ _ _ [.ro uc ((classesL l ((wholeR l).1.2.1.getD i.toNat 0) ((besK l ((wholeR l).1.2.1.getD i.toNat 0)).getD j.toNat 0)).getD k.toNat []), .ro v59 (classesL l (((wholeR l).1.2.1).getD i.toNat 0) ((besK l (((wholeR l).1.2.1).getD i.toNat 0)).getD j.toNat 0)), .ro v43 (besK l (((wholeR l).1.2.1).getD i.toNat 0)), .box b16 29 [v7a, v7b], .box b14 24 [.int .i64 ((wholeR l).1.1.1), v7e], .ro v7b ((wholeR l).1.2.2), .ro v7a ((wholeR l).1.2.1), .ro v7e ((wholeR l).1.1.2), .box b2 81 [.int .i64 0, .int .i64 0, (.slice none 0 0)]] := H
          refine q_reg [(56, uc)] [(0, vl), (2, .pointer (some ⟨b2, 0, none⟩)), (4, .pointer (some ⟨b14, 0, none⟩)), (5, .pointer (some ⟨b16, 0, none⟩)), (8, .int .i64 (((wholeR l).1.2.1).getD i.toNat 0)), (10, .int .i64 ((besK l (((wholeR l).1.2.1).getD i.toNat 0)).getD j.toNat 0)), (12, uc), (33, v7a), (34, .int .i64 (((wholeR l).1.2.1).length : Int)), (35, .int .i64 i), (42, v43), (43, .int .i64 ((besK l (((wholeR l).1.2.1).getD i.toNat 0)).length : Int)), (44, .int .i64 j), (51, v59), (52, .int .i64 ((classesL l (((wholeR l).1.2.1).getD i.toNat 0) ((besK l (((wholeR l).1.2.1).getD i.toNat 0)).getD j.toNat 0)).length : Int)), (53, .int .i64 k)] (((Try.prog.info? 27).isSome = true ∧ IdxOk v59 k) ∧ (CellOk (On w67) (hdB v59) (hdO v59 + k.toNat * 1) uc) ∧ (True) ∧ True) hA H ⟨⟨by kernel_rfl, by exact idx_ok (H.get 1 rfl) (by omega) (by omega)⟩, by exact huc k0 (by omega), trivial, trivial⟩ fun a w72 hA H hG => ?_
          refine hK71 _ _ ?_
          refine go_seq fun K73 hK73 => ?_
          refine q_reg [(59, .int .i64 (((classesL l ((wholeR l).1.2.1.getD i.toNat 0) ((besK l ((wholeR l).1.2.1.getD i.toNat 0)).getD j.toNat 0)).getD k.toNat []).length : Int)), (60, .bool (decide (2 ≤ (((classesL l ((wholeR l).1.2.1.getD i.toNat 0) ((besK l ((wholeR l).1.2.1.getD i.toNat 0)).getD j.toNat 0)).getD k.toNat []).length : Int)) && decide (2 ≤ (l.length : Int) - (((classesL l ((wholeR l).1.2.1.getD i.toNat 0) ((besK l ((wholeR l).1.2.1.getD i.toNat 0)).getD j.toNat 0)).getD k.toNat []).length : Int))))] [(0, vl), (2, .pointer (some ⟨b2, 0, none⟩)), (4, .pointer (some ⟨b14, 0, none⟩)), (5, .pointer (some ⟨b16, 0, none⟩)), (8, .int .i64 (((wholeR l).1.2.1).getD i.toNat 0)), (10, .int .i64 ((besK l (((wholeR l).1.2.1).getD i.toNat 0)).getD j.toNat 0)), (12, uc), (33, v7a), (34, .int .i64 (((wholeR l).1.2.1).length : Int)), (35, .int .i64 i), (42, v43), (43, .int .i64 ((besK l (((wholeR l).1.2.1).getD i.toNat 0)).length : Int)), (44, .int .i64 j), (51, v59), (52, .int .i64 ((classesL l (((wholeR l).1.2.1).getD i.toNat 0) ((besK l (((wholeR l).1.2.1).getD i.toNat 0)).getD j.toNat 0)).length : Int)), (53, .int .i64 k), (60, .bool (decide (2 ≤ (((classesL l ((wholeR l).1.2.1.getD i.toNat 0) ((besK l ((wholeR l).1.2.1.getD i.toNat 0)).getD j.toNat 0)).getD k.toNat []).length : Int)) && decide (2 ≤ (l.length : Int) - (((classesL l ((wholeR l).1.2.1.getD i.toNat 0) ((besK l ((wholeR l).1.2.1.getD i.toNat 0)).getD j.toNat 0)).getD k.toNat []).length : Int))))] ((True) ∧ (True) ∧ (LenOk uc (((classesL l ((wholeR l).1.2.1.getD i.toNat 0) ((besK l ((wholeR l).1.2.1.getD i.toNat 0)).getD j.toNat 0)).getD k.toNat []).length : Int)) ∧ (Callable Try.prog 92 ∧ CallOk Try.prog (On w72) 92 [vl, .int .i64 (((classesL l ((wholeR l).1.2.1.getD i.toNat 0) ((besK l ((wholeR l).1.2.1.getD i.toNat 0)).getD j.toNat 0)).getD k.toNat []).length : Int)].toArray (.bool (decide (2 ≤ (((classesL l ((wholeR l).1.2.1.getD i.toNat 0) ((besK l ((wholeR l).1.2.1.getD i.toNat 0)).getD j.toNat 0)).getD k.toNat []).length : Int)) && decide (2 ≤ (l.length : Int) - (((classesL l ((wholeR l).1.2.1.getD i.toNat 0) ((besK l ((wholeR l).1.2.1.getD i.toNat 0)).getD j.toNat 0)).getD k.toNat []).length : Int))))) ∧ True) hA H ⟨trivial, trivial, by exact len_ok (H.get 0 rfl), ⟨callable_of, callOk_of fun w hw => by exact will_any vl l (((classesL l ((wholeR l).1.2.1.getD i.toNat 0) ((besK l ((wholeR l).1.2.1.getD i.toNat 0)).getD j.toNat 0)).getD k.toNat []).length : Int) w (((H.on hw).arg hL)) (by omega) (by omega)⟩, trivial⟩ fun a w74 hA H hG => ?_
          refine hK73 _ _ ?_
          refine go_cond hA (.tmp 60) (decide (2 ≤ (((classesL l ((wholeR l).1.2.1.getD i.toNat 0) ((besK l ((wholeR l).1.2.1.getD i.toNat 0)).getD j.toNat 0)).getD k.toNat []).length : Int)) && decide (2 ≤ (l.length : Int) - (((classesL l ((wholeR l).1.2.1.getD i.toNat 0) ((besK l ((wholeR l).1.2.1.getD i.toNat 0)).getD j.toNat 0)).getD k.toNat []).length : Int))) (fun hb75 => ?_) (fun hb75 => ?_)
          · have hhb75 := (⟨of_decide_eq_true ((aT hb75).1), of_decide_eq_true ((aT hb75).2)⟩ : _ ∧ _)
            refine go_seq fun K76 hK76 => ?_
            refine region_list ?_
            refine q_list 0 4 [(64, .agg #[.int .i64 (((wholeR l).1.2.1).getD i.toNat 0), .int .i64 ((besK l (((wholeR l).1.2.1).getD i.toNat 0)).getD j.toNat 0), uc])] [(2, .pointer (some ⟨b2, 0, none⟩)), (64, .agg #[.int .i64 (((wholeR l).1.2.1).getD i.toNat 0), .int .i64 ((besK l (((wholeR l).1.2.1).getD i.toNat 0)).getD j.toNat 0), uc])] ((True) ∧ (True) ∧ (True) ∧ (∀ w, (Instr.build 81 #[(0, .int .i64 (((wholeR l).1.2.1).getD i.toNat 0)), (1, .int .i64 ((besK l (((wholeR l).1.2.1).getD i.toNat 0)).getD j.toNat 0)), (2, uc)]).run Try.prog w = .ok (.agg #[.int .i64 (((wholeR l).1.2.1).getD i.toNat 0), .int .i64 ((besK l (((wholeR l).1.2.1).getD i.toNat 0)).getD j.toNat 0), uc]) w) ∧ True) hA H ⟨trivial, trivial, trivial, fun w => by obtain ⟨_, _, _, e0⟩ := rd_form (H.get 0 rfl); rw [e0]; kernel_rfl, trivial⟩ fun a w77 hA H hG => ?_
            refine list_at 4 ?_; refine q_store 4 81 (.tmp 2) (.tmp 64) 8 b2 (0) 81 [.int .i64 0, .int .i64 0, (.slice none 0 0)] [.int .i64 (((wholeR l).1.2.1).getD i.toNat 0), .int .i64 ((besK l (((wholeR l).1.2.1).getD i.toNat 0)).getD j.toNat 0), uc] [.int .i64 (((wholeR l).1.2.1).getD i.toNat 0), .int .i64 ((besK l (((wholeR l).1.2.1).getD i.toNat 0)).getD j.toNat 0), uc] (.agg #[.int .i64 (((wholeR l).1.2.1).getD i.toNat 0), .int .i64 ((besK l (((wholeR l).1.2.1).getD i.toNat 0)).getD j.toNat 0), uc]) [(2, .pointer (some ⟨b2, 0, none⟩))] hA H rfl rfl (Nat.le_of_ble_eq_true (by kernel_rfl)) rfl (fun v hv => by simp only [List.mem_cons, List.not_mem_nil, or_false] at hv; rcases hv with rfl | rfl | rfl; exact rfl; exact rfl; exact (rd_one (H.get 0 rfl))) fun a w78 H hA hG => ?_
            replace H : Fr _ _ _ [.ro uc ((classesL l ((wholeR l).1.2.1.getD i.toNat 0) ((besK l ((wholeR l).1.2.1.getD i.toNat 0)).getD j.toNat 0)).getD k.toNat []), .ro v59 (classesL l (((wholeR l).1.2.1).getD i.toNat 0) ((besK l (((wholeR l).1.2.1).getD i.toNat 0)).getD j.toNat 0)), .ro v43 (besK l (((wholeR l).1.2.1).getD i.toNat 0)), .box b16 29 [v7a, v7b], .box b14 24 [.int .i64 ((wholeR l).1.1.1), v7e], .ro v7b ((wholeR l).1.2.2), .ro v7a ((wholeR l).1.2.1), .ro v7e ((wholeR l).1.1.2), .box b2 81 [.int .i64 (((wholeR l).1.2.1).getD i.toNat 0), .int .i64 ((besK l (((wholeR l).1.2.1).getD i.toNat 0)).getD j.toNat 0), uc]] := H
            refine q_list 5 1 [] [(2, .pointer (some ⟨b2, 0, none⟩)), (3, .bool true)] ((True) ∧ True) hA H ⟨trivial, trivial⟩ fun a w79 hA H hG => ?_
            refine list_end ?_
            refine hK76 _ _ ?_
            refine go_ret_ ?_
            refine ret_cell2 2 3 81 8 b2 81 [.int .i64 (((wholeR l).1.2.1).getD i.toNat 0), .int .i64 ((besK l (((wholeR l).1.2.1).getD i.toNat 0)).getD j.toNat 0), uc] #[.int .i64 (((wholeR l).1.2.1).getD i.toNat 0), .int .i64 ((besK l (((wholeR l).1.2.1).getD i.toNat 0)).getD j.toNat 0), uc] (.bool true) hA H rfl ?_ (ht := ⟨_, Try.underlying81⟩)
            exact ⟨_, rfl, first_giv (first_hit hk k0 (by omega) hb75) (H.giveRo 0 rfl), H.below⟩
          · have hhb75 := (aF hb75).imp (fun h => of_decide_eq_false h) (fun h => of_decide_eq_false h)
            refine go_skip ?_
            refine hK70 _ _ ?_
            refine q_reg [] [(0, vl), (2, .pointer (some ⟨b2, 0, none⟩)), (4, .pointer (some ⟨b14, 0, none⟩)), (5, .pointer (some ⟨b16, 0, none⟩)), (8, .int .i64 (((wholeR l).1.2.1).getD i.toNat 0)), (10, .int .i64 ((besK l (((wholeR l).1.2.1).getD i.toNat 0)).getD j.toNat 0)), (33, v7a), (34, .int .i64 (((wholeR l).1.2.1).length : Int)), (35, .int .i64 i), (42, v43), (43, .int .i64 ((besK l (((wholeR l).1.2.1).getD i.toNat 0)).length : Int)), (44, .int .i64 j), (51, v59), (52, .int .i64 ((classesL l (((wholeR l).1.2.1).getD i.toNat 0) ((besK l (((wholeR l).1.2.1).getD i.toNat 0)).getD j.toNat 0)).length : Int)), (53, .int .i64 (k + 1))] ((InR .i64 (k + 1)) ∧ (True) ∧ True) hA H ⟨⟨by omega, by omega⟩, trivial, trivial⟩ fun a w80 hA H hG => ?_
            replace H := H.drop 0
            refine ⟨(k + 1), ⟨env_sub _ hA, ⟨_, H⟩, ?_⟩, ?_⟩
            · (try dsimp only); exact ⟨by omega, by omega, first_c hk k0 (by omega) hb75⟩
            · (try dsimp only); omega
        · have hhb69 := of_decide_eq_false hb69
          refine go_exit 4 ?_
          refine hK54 _ _ ?_
          refine q_reg [] [(0, vl), (2, .pointer (some ⟨b2, 0, none⟩)), (4, .pointer (some ⟨b14, 0, none⟩)), (5, .pointer (some ⟨b16, 0, none⟩)), (8, .int .i64 (((wholeR l).1.2.1).getD i.toNat 0)), (33, v7a), (34, .int .i64 (((wholeR l).1.2.1).length : Int)), (35, .int .i64 i), (42, v43), (43, .int .i64 ((besK l (((wholeR l).1.2.1).getD i.toNat 0)).length : Int)), (44, .int .i64 (j + 1))] ((InR .i64 (j + 1)) ∧ (True) ∧ True) hA H ⟨⟨by omega, by omega⟩, trivial, trivial⟩ fun a w81 hA H hG => ?_
          replace H := H.drop 0
          refine ⟨(j + 1), ⟨env_sub _ hA, ⟨_, H⟩, ?_⟩, ?_⟩
          · (try dsimp only); exact ⟨by omega, by omega, first_cend hk (by omega)⟩
          · (try dsimp only); omega
      · have hhb53 := of_decide_eq_false hb53
        refine go_exit 2 ?_
        refine hK38 _ _ ?_
        refine q_reg [] [(0, vl), (2, .pointer (some ⟨b2, 0, none⟩)), (4, .pointer (some ⟨b14, 0, none⟩)), (5, .pointer (some ⟨b16, 0, none⟩)), (33, v7a), (34, .int .i64 (((wholeR l).1.2.1).length : Int)), (35, .int .i64 (i + 1))] ((InR .i64 (i + 1)) ∧ (True) ∧ True) hA H ⟨⟨by omega, by omega⟩, trivial, trivial⟩ fun a w82 hA H hG => ?_
        replace H := H.drop 0
        refine ⟨(i + 1), ⟨env_sub _ hA, ⟨_, H⟩, ?_⟩, ?_⟩
        · (try dsimp only); exact ⟨by omega, by omega, first_vend hj (by omega)⟩
        · (try dsimp only); omega
    · have hhb37 := of_decide_eq_false hb37
      refine go_exit 0 ?_
      refine hK29 _ _ ?_
      refine go_seq fun K83 hK83 => ?_
      refine region_list ?_
      refine q_list 0 1 [(68, .agg #[.int .i64 0, .int .i64 0, (.slice none 0 0)])] [(2, .pointer (some ⟨b2, 0, none⟩)), (68, .agg #[.int .i64 0, .int .i64 0, (.slice none 0 0)])] ((∀ w, (Instr.build 81 #[]).run Try.prog w = .ok (.agg #[.int .i64 0, .int .i64 0, (.slice none 0 0)]) w) ∧ True) hA H ⟨fun w => by kernel_rfl, trivial⟩ fun a w84 hA H hG => ?_
      refine list_at 1 ?_; refine q_store 1 81 (.tmp 2) (.tmp 68) 5 b2 (0) 81 [.int .i64 0, .int .i64 0, (.slice none 0 0)] [.int .i64 0, .int .i64 0, (.slice none 0 0)] [.int .i64 0, .int .i64 0, (.slice none 0 0)] (.agg #[.int .i64 0, .int .i64 0, (.slice none 0 0)]) [(2, .pointer (some ⟨b2, 0, none⟩))] hA H rfl rfl (Nat.le_of_ble_eq_true (by kernel_rfl)) rfl (fun v hv => by simp only [List.mem_cons, List.not_mem_nil, or_false] at hv; rcases hv with rfl | rfl | rfl; exact rfl; exact rfl; exact rfl) fun a w85 H hA hG => ?_
      replace H : Fr _ _ _ [.box b16 29 [v7a, v7b], .box b14 24 [.int .i64 ((wholeR l).1.1.1), v7e], .ro v7b ((wholeR l).1.2.2), .ro v7a ((wholeR l).1.2.1), .ro v7e ((wholeR l).1.1.2), .box b2 81 [.int .i64 0, .int .i64 0, (.slice none 0 0)]] := H
      refine q_list 2 1 [] [(2, .pointer (some ⟨b2, 0, none⟩)), (3, .bool false)] ((True) ∧ True) hA H ⟨trivial, trivial⟩ fun a w86 hA H hG => ?_
      refine list_end ?_
      refine hK83 _ _ ?_
      refine go_ret_ ?_
      refine ret_cell2 2 3 81 5 b2 81 [.int .i64 0, .int .i64 0, (.slice none 0 0)] #[.int .i64 0, .int .i64 0, (.slice none 0 0)] (.bool false) hA H rfl ?_ (ht := ⟨_, Try.underlying81⟩)
      exact ⟨_, rfl, first_nil (first_uend hi (by omega)), H.below⟩

end Go.Proofs.Ytahonnlgkmimlaa

set_option linter.unusedSimpArgs false
set_option linter.unusedVariables false
namespace Go.Proofs.Ytahonnlgkmimlaa
open Go.RowKit

end Go.Proofs.Ytahonnlgkmimlaa

set_option linter.unusedSimpArgs false
set_option linter.unusedVariables false
namespace Go.Proofs.Ytahonnlgkmimlaa
open Go.RowKit

def offL (l : List Lk) (sd : List Int) (i : Int) : List Lk := ((upto i).filter fun j => hasB sd j).map fun j => l.getD j.toNat (0, (0, 0))
def restL (l : List Lk) (sd : List Int) (i : Int) : List Lk := ((upto i).filter fun j => !hasB sd j).map fun j => l.getD j.toNat (0, (0, 0))
def cutOk (l : List Lk) (x y : Int) (sd : List Int) (id : Int) : Bool := !((((!(pclassesE l x y).any fun c => decide (c = sd)) || !willB l (sd.length : Int)) || decide (0 ≤ id)) || l.any fun b => decide (b.2.2 = id))
def cutA (l : List Lk) (x y : Int) (sd : List Int) (id : Int) : List Lk := if cutOk l x y sd id = true then offL l sd (l.length : Int) ++ [(x, (y, id))] else []
def cutB (l : List Lk) (x y : Int) (sd : List Int) (id : Int) : List Lk := if cutOk l x y sd id = true then restL l sd (l.length : Int) ++ [(x, (y, id))] else []
theorem pclasses_len (l : List Lk) (x y : Int) : (pclassesE l x y).length ≤ l.length := by
  unfold pclassesE; split
  · simp
  · exact classes_len l x y
end Go.Proofs.Ytahonnlgkmimlaa

set_option linter.unusedSimpArgs false
set_option linter.unusedVariables false
namespace Go.Proofs.Ytahonnlgkmimlaa
open Go.RowKit

end Go.Proofs.Ytahonnlgkmimlaa

set_option linter.unusedSimpArgs false
set_option linter.unusedVariables false
namespace Go.Proofs.Ytahonnlgkmimlaa
open Go.RowKit

end Go.Proofs.Ytahonnlgkmimlaa

set_option linter.unusedSimpArgs false
set_option linter.unusedVariables false
namespace Go.Proofs.Ytahonnlgkmimlaa
open Go.RowKit

/-- Do two links have an end in common that is neither of two vertices? -/
def touchK (a b : Lk) (u v : Int) : Prop := (a.1 ≠ u ∧ a.1 ≠ v ∧ (a.1 = b.1 ∨ a.1 = b.2.1)) ∨ (a.2.1 ≠ u ∧ a.2.1 ≠ v ∧ (a.2.1 = b.1 ∨ a.2.1 = b.2.1))
instance (a b : Lk) (u v : Int) : Decidable (touchK a b u v) := by unfold touchK; infer_instance
abbrev lkAt (l : List Lk) (i : Int) : Lk := l.getD i.toNat (0, (0, 0))
def endP (l : List Lk) (i w : Int) : Prop := lkA l i = w ∨ lkB l i = w
theorem touch_iff {l : List Lk} {i j u v : Int} : touchK (lkAt l i) (lkAt l j) u v ↔ ∃ w, w ≠ u ∧ w ≠ v ∧ endP l i w ∧ endP l j w := by
  unfold touchK endP lkA lkB lkAt
  constructor
  · rintro (⟨h1, h2, h3⟩ | ⟨h1, h2, h3⟩)
    · exact ⟨_, h1, h2, .inl rfl, h3.imp Eq.symm Eq.symm⟩
    · exact ⟨_, h1, h2, .inr rfl, h3.imp Eq.symm Eq.symm⟩
  · rintro ⟨w, h1, h2, h3 | h3, h4⟩
    · subst h3; exact .inl ⟨h1, h2, h4.imp Eq.symm Eq.symm⟩
    · subst h3; exact .inr ⟨h1, h2, h4.imp Eq.symm Eq.symm⟩
theorem touch_symm {l : List Lk} {i j u v : Int} (h : touchK (lkAt l i) (lkAt l j) u v) : touchK (lkAt l j) (lkAt l i) u v := by
  obtain ⟨w, h1, h2, h3, h4⟩ := touch_iff.1 h; exact touch_iff.2 ⟨w, h1, h2, h4, h3⟩
/-- Of one class. -/
inductive Cn (l : List Lk) (u v : Int) : Int → Int → Prop
  | refl (i : Int) : Cn l u v i i
  | link {i j : Int} : 0 ≤ i → i < (l.length : Int) → 0 ≤ j → j < (l.length : Int) → touchK (lkAt l i) (lkAt l j) u v → Cn l u v i j
  | symm {i j : Int} : Cn l u v i j → Cn l u v j i
  | trans {i j k : Int} : Cn l u v i j → Cn l u v j k → Cn l u v i k
theorem joinR_eq {R : Int → Int} {x y : Int} : joinR R x y x = joinR R x y y := by unfold joinR; split <;> split <;> omega
theorem joinR_con {R : Int → Int} {x y a b : Int} (h : R a = R b) : joinR R x y a = joinR R x y b := by unfold joinR; rw [h]
theorem joinR_cases {R : Int → Int} {x y a b : Int} (h : joinR R x y a = joinR R x y b) : R a = R b ∨ ((R a = R x ∨ R a = R y) ∧ (R b = R x ∨ R b = R y)) := by
  unfold joinR at h
  split at h <;> split at h <;> omega
structure Cl9 (l : List Lk) (u v : Int) (D : Int → Int → Prop) (s : ClS) : Prop where
  sound : ∀ a b, s.1 a = s.1 b → Cn l u v a b
  fst : ∀ w f, s.2 w = some f → 0 ≤ f ∧ f < (l.length : Int) ∧ endP l f w ∧ w ≠ u ∧ w ≠ v
  done : ∀ k w, D k w → w ≠ u → w ≠ v → ∃ f, s.2 w = some f ∧ s.1 k = s.1 f
theorem cl9_step {l : List Lk} {u v i w : Int} {D : Int → Int → Prop} {s : ClS} (h : Cl9 l u v D s) (h0 : 0 ≤ i) (h1 : i < (l.length : Int)) (he : endP l i w) : Cl9 l u v (fun k z => D k z ∨ (k = i ∧ z = w)) (clStep u v i w s) := by
  unfold clStep
  split
  · rename_i q
    refine ⟨h.sound, h.fst, fun k z hd hu hv => ?_⟩
    rcases hd with hd | ⟨rfl, rfl⟩
    · exact h.done k z hd hu hv
    · rcases q with q | q
      · exact (hu q).elim
      · exact (hv q).elim
  · rename_i q
    split
    · rename_i f hf
      obtain ⟨f0, f1, f2, f3, f4⟩ := h.fst w f hf
      have ht : Cn l u v f i := .link f0 f1 h0 h1 (touch_iff.2 ⟨w, f3, f4, f2, he⟩)
      refine ⟨fun a b hab => ?_, h.fst, fun k z hd hu hv => ?_⟩
      · rcases joinR_cases hab with e | ⟨e1, e2⟩
        · exact h.sound a b e
        · have c1 : Cn l u v a f := by
            rcases e1 with e | e
            · exact h.sound a f e
            · exact (h.sound a i e).trans ht.symm
          have c2 : Cn l u v b f := by
            rcases e2 with e | e
            · exact h.sound b f e
            · exact (h.sound b i e).trans ht.symm
          exact c1.trans c2.symm
      · rcases hd with hd | ⟨rfl, rfl⟩
        · obtain ⟨g, hg, e⟩ := h.done k z hd hu hv
          exact ⟨g, hg, joinR_con e⟩
        · exact ⟨f, hf, joinR_eq.symm⟩
    · rename_i hn
      refine ⟨h.sound, fun z f hz => ?_, fun k z hd hu hv => ?_⟩
      · have hz : (if z = w then some i else s.2 z) = some f := hz
        split at hz
        · rename_i e; cases hz; subst e; exact ⟨h0, h1, he, fun e => q (.inl e), fun e => q (.inr e)⟩
        · exact h.fst z f hz
      · show ∃ f, (if z = w then some i else s.2 z) = some f ∧ s.1 k = s.1 f
        rcases hd with hd | ⟨rfl, rfl⟩
        · obtain ⟨g, hg, e⟩ := h.done k z hd hu hv
          by_cases e2 : z = w
          · subst e2; rw [hn] at hg; cases hg
          · rw [if_neg e2]; exact ⟨g, hg, e⟩
        · rw [if_pos rfl]; exact ⟨_, rfl, rfl⟩
theorem cl9_run {l : List Lk} {u v : Int} : ∀ n : Nat, n ≤ l.length → Cl9 l u v (fun k w => 0 ≤ k ∧ k < (n : Int) ∧ endP l k w) (clRun u v l n)
  | 0, _ => ⟨fun a b h => by have h : a = b := h; subst h; exact .refl _, fun w f h => (by cases h), fun k w h => (by omega)⟩
  | n + 1, hn => by
    have h := cl9_step (cl9_step (cl9_run (u := u) (v := v) n (by omega)) (i := (n : Int)) (w := lkA l (n : Int)) (by omega) (by omega) (.inl rfl)) (i := (n : Int)) (w := lkB l (n : Int)) (by omega) (by omega) (.inr rfl)
    refine ⟨h.sound, h.fst, fun k w ⟨k0, k1, k2⟩ hu hv => h.done k w ?_ hu hv⟩
    by_cases e : k = (n : Int)
    · subst e
      rcases k2 with e | e
      · exact .inl (.inr ⟨rfl, e.symm⟩)
      · exact .inr ⟨rfl, e.symm⟩
    · exact .inl (.inl ⟨k0, by omega, k2⟩)
theorem clR_le (u v : Int) (l : List Lk) (j : Int) : clR u v l j ≤ j := (clB_run u v l l.length).le j
theorem clR_cn {u v : Int} {l : List Lk} {i j : Int} (h : clR u v l i = clR u v l j) : Cn l u v i j := (cl9_run l.length (Nat.le_refl _)).sound i j h
theorem cn_clR {u v : Int} {l : List Lk} {i j : Int} (h : Cn l u v i j) : clR u v l i = clR u v l j := by
  induction h with
  | refl => rfl
  | link a b c d e =>
    obtain ⟨w, h1, h2, h3, h4⟩ := touch_iff.1 e
    have h9 := cl9_run (u := u) (v := v) (l := l) l.length (Nat.le_refl _)
    obtain ⟨f, hf, e1⟩ := h9.done _ w ⟨a, b, h3⟩ h1 h2
    obtain ⟨f', hf', e2⟩ := h9.done _ w ⟨c, d, h4⟩ h1 h2
    rw [hf] at hf'; cases hf'
    exact e1.trans e2.symm
  | symm _ ih => exact ih.symm
  | trans _ _ h1 h2 => exact h1.trans h2
end Go.Proofs.Ytahonnlgkmimlaa

set_option linter.unusedSimpArgs false
set_option linter.unusedVariables false
namespace Go.Proofs.Ytahonnlgkmimlaa
open Go.RowKit

structure ClM (s : ClS) : Prop where
  pos : ∀ j, 0 ≤ j → 0 ≤ s.1 j
  idem : ∀ j, 0 ≤ j → s.1 (s.1 j) = s.1 j
  fs : ∀ w f, s.2 w = some f → 0 ≤ f
theorem clM_step {u v i w : Int} {s : ClS} (h0 : 0 ≤ i) (h : ClM s) : ClM (clStep u v i w s) := by
  unfold clStep
  split
  · exact h
  · split
    · rename_i f hf
      have f0 := h.fs w f hf
      have a1 := h.pos f f0; have a2 := h.pos i h0; have a3 := h.idem f f0; have a4 := h.idem i h0
      refine ⟨fun j hj => ?_, fun j hj => ?_, h.fs⟩
      · show 0 ≤ joinR s.1 f i j
        unfold joinR
        have := h.pos j hj
        split <;> omega
      · show joinR s.1 f i (joinR s.1 f i j) = joinR s.1 f i j
        have b1 := h.idem j hj
        unfold joinR
        by_cases q : s.1 j = max (s.1 f) (s.1 i)
        · rw [if_pos q]
          rcases Int.le_total (s.1 f) (s.1 i) with e | e
          · rw [Int.min_eq_left e, a3]; split <;> rfl
          · rw [Int.min_eq_right e, a4]; split <;> rfl
        · rw [if_neg q, b1, if_neg q]
    · refine ⟨h.pos, h.idem, fun z f hz => ?_⟩
      have hz : (if z = w then some i else s.2 z) = some f := hz
      split at hz
      · cases hz; exact h0
      · exact h.fs z f hz
theorem clM_run (u v : Int) (l : List Lk) : ∀ i : Nat, ClM (clRun u v l i)
  | 0 => ⟨fun j h => h, fun j h => rfl, fun w f h => by cases h⟩
  | i + 1 => clM_step (by omega) (clM_step (by omega) (clM_run u v l i))
theorem clR_pos {u v : Int} {l : List Lk} {j : Int} (h : 0 ≤ j) : 0 ≤ clR u v l j := (clM_run u v l l.length).pos j h
theorem clR_idem {u v : Int} {l : List Lk} {j : Int} (h : 0 ≤ j) : clR u v l (clR u v l j) = clR u v l j := (clM_run u v l l.length).idem j h

/-- c spreads from i; its first k have spread, and number k as far as t. -/
structure Bf (l : List Lk) (u v i k t : Int) (c : List Int) : Prop where
  nd : c.Nodup
  fst : i ∈ c
  cn : ∀ x ∈ c, 0 ≤ x ∧ x < (l.length : Int) ∧ Cn l u v i x
  k0 : 0 ≤ k
  kn : k ≤ (c.length : Int)
  cl : ∀ q : Nat, (q : Int) < k → ∀ j, 0 ≤ j → j < (l.length : Int) → touchK (lkAt l (c.getD q 0)) (lkAt l j) u v → j ∈ c
  ct : ∀ j, 0 ≤ j → j < t → touchK (lkAt l (c.getD k.toNat 0)) (lkAt l j) u v → j ∈ c
section
variable {l : List Lk} {u v i k t : Int} {c : List Int}
theorem bf_start (h0 : 0 ≤ i) (h1 : i < (l.length : Int)) : Bf l u v i 0 0 [i] :=
  ⟨by simp, by simp, fun x hx => by rw [List.mem_singleton.1 hx]; exact ⟨h0, h1, .refl _⟩, Int.le_refl _, by simp, fun q hq => by omega, fun j a b => by omega⟩
theorem bf_len (h : Bf l u v i k t c) : c.length ≤ l.length := by
  have := nodup_le (m := upto (l.length : Int)) h.nd fun x hx => mem_upto.2 ⟨(h.cn x hx).1, (h.cn x hx).2.1⟩
  have h2 := upto_len (l.length : Int)
  omega
theorem bf_next (h : Bf l u v i k t c) (hk : k < (c.length : Int)) (ht : (l.length : Int) ≤ t) : Bf l u v i (k + 1) 0 c :=
  ⟨h.nd, h.fst, h.cn, by have := h.k0; omega, by omega, fun q hq j a b e => by
    have := h.k0
    by_cases z : (q : Int) = k
    · exact h.ct j a (by omega) (by rw [show k.toNat = q by omega]; exact e)
    · exact h.cl q (by omega) j a b e, fun j a b => by omega⟩
theorem bf_skip (h : Bf l u v i k t c) (h0 : 0 ≤ t) (hs : t ∈ c ∨ ¬ touchK (lkAt l (c.getD k.toNat 0)) (lkAt l t) u v) : Bf l u v i k (t + 1) c :=
  ⟨h.nd, h.fst, h.cn, h.k0, h.kn, h.cl, fun j a b e => by
    by_cases z : j = t
    · subst z; rcases hs with hs | hs
      · exact hs
      · exact (hs e).elim
    · exact h.ct j a (by omega) e⟩
theorem bf_push (h : Bf l u v i k t c) (hk : k < (c.length : Int)) (h0 : 0 ≤ t) (h1 : t < (l.length : Int)) (hn : t ∉ c) (ht : touchK (lkAt l (c.getD k.toNat 0)) (lkAt l t) u v) : Bf l u v i k (t + 1) (c ++ [t]) := by
  have k0 := h.k0
  have hg : ∀ q : Nat, q < c.length → (c ++ [t]).getD q 0 = c.getD q 0 := fun q hq => by rw [List.getD_eq_getElem?_getD, List.getD_eq_getElem?_getD, List.getElem?_append_left hq]
  have hm := h.cn _ (getD_mem (l := c) (i := k.toNat) (d := 0) (by omega))
  refine ⟨?_, List.mem_append_left _ h.fst, fun x hx => ?_, h.k0, by rw [List.length_append]; have := h.kn; simp; omega, fun q hq j a b e => ?_, fun j a b e => ?_⟩
  · rw [List.nodup_append]; exact ⟨h.nd, by simp, fun x hx y hy => by rw [List.mem_singleton.1 hy]; exact fun e => hn (e ▸ hx)⟩
  · rcases List.mem_append.1 hx with hx | hx
    · exact h.cn x hx
    · rw [List.mem_singleton.1 hx]; exact ⟨h0, h1, hm.2.2.trans (.link hm.1 hm.2.1 h0 h1 ht)⟩
  · rw [hg q (by omega)] at e; exact List.mem_append_left _ (h.cl q hq j a b e)
  · rw [hg k.toNat (by omega)] at e
    by_cases z : j = t
    · subst z; simp
    · exact List.mem_append_left _ (h.ct j a (by omega) e)
theorem bf_end (h : Bf l u v i k t c) (hk : (c.length : Int) ≤ k) : ∀ j, 0 ≤ j → j < (l.length : Int) → (j ∈ c ↔ clR u v l j = clR u v l i) := by
  have hcl : ∀ x ∈ c, ∀ j, 0 ≤ j → j < (l.length : Int) → touchK (lkAt l x) (lkAt l j) u v → j ∈ c := by
    intro x hx j a b e
    obtain ⟨q, hq, rfl⟩ := mem_getD.1 hx
    exact h.cl q (by omega) j a b e
  have key : ∀ x y, Cn l u v x y → (x ∈ c ↔ y ∈ c) := by
    intro x y hxy
    induction hxy with
    | refl => exact Iff.rfl
    | link a b c9 d e => exact ⟨fun hx => hcl _ hx _ c9 d e, fun hy => hcl _ hy _ a b (touch_symm e)⟩
    | symm _ ih => exact ih.symm
    | trans _ _ h1 h2 => exact h1.trans h2
  intro j a b
  constructor
  · intro hj; exact (cn_clR (h.cn j hj).2.2).symm
  · intro e; exact (key _ _ (clR_cn e)).2 h.fst
/-- What stands ahead of i: done are the classes with a link ahead of i. -/
structure Dn (l : List Lk) (u v i : Int) (d : List Int) (out : List (List Int)) : Prop where
  nd : d.Nodup
  mem : ∀ x, x ∈ d ↔ (0 ≤ x ∧ x < (l.length : Int)) ∧ clR u v l x < i
  out : out = (rootsTo (clR u v l) i).map fun r => (upto (l.length : Int)).filter fun j => decide (clR u v l j = r)
theorem dn_start : Dn l u v 0 [] [] := ⟨by simp, fun x => by constructor; · intro h; cases h
                                                             · intro h; have := clR_pos (u := u) (v := v) (l := l) h.1.1; omega, rfl⟩
theorem dn_len {d : List Int} {out : List (List Int)} (h : Dn l u v i d out) : d.length ≤ l.length := by
  have := nodup_le (m := upto (l.length : Int)) h.nd fun x hx => mem_upto.2 ((h.mem x).1 hx).1
  have h2 := upto_len (l.length : Int)
  omega
theorem roots_snoc {R : Int → Int} (h0 : 0 ≤ i) : rootsTo R (i + 1) = rootsTo R i ++ (if R i = i then [i] else []) := by
  unfold rootsTo; rw [upto_succ h0, List.filter_append, List.filter_cons, List.filter_nil]
  by_cases h : R i = i
  · rw [if_pos (decide_eq_true h), if_pos h]
  · rw [if_neg (by rw [decide_eq_false h]; decide), if_neg h]
theorem dn_skip {d : List Int} {out : List (List Int)} (h : Dn l u v i d out) (h0 : 0 ≤ i) (hi : i ∈ d) : Dn l u v (i + 1) d out := by
  have hr := ((h.mem i).1 hi).2
  have hid := clR_idem (u := u) (v := v) (l := l) h0
  refine ⟨h.nd, fun x => ?_, ?_⟩
  · rw [h.mem x]
    refine and_congr_right fun hx => ⟨fun q => by omega, fun q => ?_⟩
    have := clR_idem (u := u) (v := v) (l := l) hx.1
    rcases Int.lt_or_eq_of_le (show clR u v l x ≤ i by omega) with e | e
    · exact e
    · rw [e] at this; omega
  · rw [roots_snoc h0, if_neg (by omega), List.append_nil]; exact h.out
theorem dn_root {d : List Int} {out : List (List Int)} (h : Dn l u v i d out) (h0 : 0 ≤ i) (h1 : i < (l.length : Int)) (hi : i ∉ d) : clR u v l i = i := by
  have h2 := clR_le u v l i
  have h3 : ¬ clR u v l i < i := fun q => hi ((h.mem i).2 ⟨⟨h0, h1⟩, q⟩)
  omega
theorem dn_add {d c : List Int} {out : List (List Int)} {k t : Int} (h : Dn l u v i d out) (h0 : 0 ≤ i) (h1 : i < (l.length : Int)) (hi : i ∉ d) (hb : Bf l u v i k t c) (hk : (c.length : Int) ≤ k) :
    Dn l u v (i + 1) (d ++ c) (out ++ [(upto (l.length : Int)).filter fun x => decide (x ∈ c)]) := by
  have hr := dn_root h h0 h1 hi
  have he := bf_end hb hk
  refine ⟨?_, fun x => ?_, ?_⟩
  · rw [List.nodup_append]
    refine ⟨h.nd, hb.nd, fun x hx y hy e => ?_⟩
    subst e
    have := (h.mem x).1 hx
    have h5 := hb.cn x hy
    have h6 := (he x h5.1 h5.2.1).1 hy
    omega
  · rw [List.mem_append, h.mem x]
    constructor
    · rintro (q | q)
      · exact ⟨q.1, by omega⟩
      · have h5 := hb.cn x q
        have h6 := (he x h5.1 h5.2.1).1 q
        exact ⟨⟨h5.1, h5.2.1⟩, by omega⟩
    · rintro ⟨q1, q2⟩
      by_cases e : clR u v l x = i
      · exact .inr ((he x q1.1 q1.2).2 (by omega))
      · exact .inl ⟨q1, by omega⟩
  · rw [roots_snoc h0, if_pos hr, List.map_append, ← h.out]
    congr 1
    rw [List.map_cons, List.map_nil]
    congr 1
    refine List.filter_congr fun x hx => ?_
    have := mem_upto.1 hx
    rw [decide_eq_decide, he x this.1 this.2, hr]
theorem dn_end {d : List Int} {out : List (List Int)} (h : Dn l u v (l.length : Int) d out) : out = classesL l u v := h.out
theorem upfil_snoc {c : List Int} {j : Int} (h0 : 0 ≤ j) : (upto (j + 1)).filter (fun x => decide (x ∈ c)) = (upto j).filter (fun x => decide (x ∈ c)) ++ (if j ∈ c then [j] else []) := by
  rw [upto_succ h0, List.filter_append, List.filter_cons, List.filter_nil]
  by_cases h : j ∈ c
  · rw [if_pos (decide_eq_true h), if_pos h]
  · rw [if_neg (by rw [decide_eq_false h]; decide), if_neg h]
end
/-- A literal that is appended to from then on. -/
theorem Fr.rowBox {α : Type} [Data α] {w0 : Orig} {w : World} {S : Stab} {rs : List Res} (h : Fr w0 w S rs) (j : Nat) {b : Nat} {e : TypeId} {cs : List Value} (hj : rs[j]? = some (.box b e cs)) {l : List α} (hrd : RowRd S w cs l) {n : Nat} (hn : n = l.length) (hsz : n ≤ 2147483647) :
    Fr w0 w S (rs.set j (.row e (.slice (some ⟨b, 0, none⟩) n n) l)) := by
  subst hn
  have hb : w.heap[b]? = some (.cells cs.toArray e (0, 0)) := h.ok _ (List.mem_of_getElem? hj)
  have hrow : Own S w e (.slice (some ⟨b, 0, none⟩) l.length l.length) l := by
    refine ⟨cs, ⟨hrd.1, .inr ⟨b, l.length, _, rfl, Nat.zero_le _, hb, Nat.le_refl _, by simp only [maxLen]; omega, by simpa using hrd.1, ?_⟩⟩, hrd⟩
    simp only [List.toList_toArray]
    rw [← hrd.1, List.take_length]
  exact h.set j hj _ hrow ⟨rfl, rfl, rfl, Nat.le_refl _, fun _ _ _ => rfl⟩ (fun b' hb' => .inl hb')
theorem touchK_b (b c : Lk) (u v : Int) : (!decide (b.1 = u) && !decide (b.1 = v) && (decide (b.1 = c.1) || decide (b.1 = c.2.1)) || !decide (b.2.1 = u) && !decide (b.2.1 = v) && (decide (b.2.1 = c.1) || decide (b.2.1 = c.2.1))) = decide (touchK b c u v) := by
  rw [Bool.eq_iff_iff, decide_eq_true_eq]
  simp only [Bool.or_eq_true, Bool.and_eq_true, Bool.not_eq_true', decide_eq_true_eq, decide_eq_false_iff_not, and_assoc, touchK, ne_eq]
theorem eq_of_getDL {l m : List (List Int)} (hl : (l.length : Int) = (m.length : Int)) (h : ∀ j : Nat, j < l.length → l.getD j [] = m.getD j []) : l = m := by
  refine List.ext_getElem (by omega) fun j h1 h2 => ?_
  have := h j h1
  rwa [List.getD_eq_getElem?_getD, List.getD_eq_getElem?_getD, List.getElem?_eq_getElem h1, List.getElem?_eq_getElem h2] at this
end Go.Proofs.Ytahonnlgkmimlaa

namespace Go.Proofs.Ytahonnlgkmimlaa
open Go.RowKit
end Go.Proofs.Ytahonnlgkmimlaa

set_option linter.unusedSimpArgs false
set_option linter.unusedVariables false
namespace Go.Proofs.Ytahonnlgkmimlaa
open Go.RowKit

set_option maxRecDepth 100000 in
set_option maxHeartbeats 1000000 in
theorem touch_any (b c : Int × Int × Int) (x y : Int) (w : World) :
  Calls Try.prog 89 [.agg #[.int .i64 b.1, .int .i64 b.2.1, .int .i64 b.2.2], .agg #[.int .i64 c.1, .int .i64 c.2.1, .int .i64 c.2.2], .int .i64 x, .int .i64 y].toArray w (Ans (.bool (decide (touchK b c x y))) w) := by
  refine enter Try.f89 61 Try.func89 fun a hA => ?_
  replace hA := env_sub [(0, .agg #[.int .i64 b.1, .int .i64 b.2.1, .int .i64 b.2.2]), (1, .agg #[.int .i64 c.1, .int .i64 c.2.1, .int .i64 c.2.2]), (2, .int .i64 x), (3, .int .i64 y)] hA
  have H := Fr.start (org w)
  refine go_seq fun K1 hK1 => ?_
  refine region_list ?_
  refine list_at 0 ?_; refine q_box 0 4 113 (.tmp 0) (.agg #[.int .i64 b.1, .int .i64 b.2.1, .int .i64 b.2.2]) [.int .i64 b.1, .int .i64 b.2.1, .int .i64 b.2.2] [(1, .agg #[.int .i64 c.1, .int .i64 c.2.1, .int .i64 c.2.2]), (2, .int .i64 x), (3, .int .i64 y)] hA H fun b2 a w3 H hA hG hge_b2 => ?_
  clear hge_b2
  refine list_at 1 ?_; refine q_box 1 5 113 (.tmp 1) (.agg #[.int .i64 c.1, .int .i64 c.2.1, .int .i64 c.2.2]) [.int .i64 c.1, .int .i64 c.2.1, .int .i64 c.2.2] [(2, .int .i64 x), (3, .int .i64 y), (4, .pointer (some ⟨b2, 0, none⟩))] hA H fun b4 a w5 H hA hG hge_b4 => ?_
  clear hge_b4
  refine q_list 2 1 [] [(2, .int .i64 x), (3, .int .i64 y), (4, .pointer (some ⟨b2, 0, none⟩)), (5, .pointer (some ⟨b4, 0, none⟩))] ((True) ∧ True) hA H ⟨trivial, trivial⟩ fun a w6 hA H hG => ?_
  refine list_end ?_
  refine hK1 _ _ ?_
  refine go_seq fun K7 hK7 => ?_
  refine q_reg [(11, .int .i64 b.1), (16, .int .i64 b.1), (22, .int .i64 b.1), (24, .int .i64 c.1), (28, .int .i64 b.1), (30, .int .i64 c.2.1)] [(2, .int .i64 x), (3, .int .i64 y), (4, .pointer (some ⟨b2, 0, none⟩)), (5, .pointer (some ⟨b4, 0, none⟩)), (9, .bool (((!decide (b.1 = x)) && (!decide (b.1 = y))) && ((decide (b.1 = c.1)) || (decide (b.1 = c.2.1)))))] ((0 < Try.prog.cellsOf 3) ∧ (CellOk (On w6) b2 (0 + 0) (.int .i64 b.1)) ∧ (True) ∧ (True) ∧ (True) ∧ ((!decide (b.1 = x)) = true → 0 < Try.prog.cellsOf 3) ∧ ((!decide (b.1 = x)) = true → CellOk (On w6) b2 (0 + 0) (.int .i64 b.1)) ∧ ((!decide (b.1 = x)) = true → True) ∧ ((!decide (b.1 = x)) = true → True) ∧ (True) ∧ (True) ∧ (((!decide (b.1 = x)) && (!decide (b.1 = y))) = true → 0 < Try.prog.cellsOf 3) ∧ (((!decide (b.1 = x)) && (!decide (b.1 = y))) = true → CellOk (On w6) b2 (0 + 0) (.int .i64 b.1)) ∧ (((!decide (b.1 = x)) && (!decide (b.1 = y))) = true → 0 < Try.prog.cellsOf 3) ∧ (((!decide (b.1 = x)) && (!decide (b.1 = y))) = true → CellOk (On w6) b4 (0 + 0) (.int .i64 c.1)) ∧ (((!decide (b.1 = x)) && (!decide (b.1 = y))) = true → True) ∧ (((!decide (b.1 = x)) && (!decide (b.1 = y))) = true → True) ∧ (((!decide (b.1 = x)) && (!decide (b.1 = y))) = true → (decide (b.1 = c.1)) = false → 0 < Try.prog.cellsOf 3) ∧ (((!decide (b.1 = x)) && (!decide (b.1 = y))) = true → (decide (b.1 = c.1)) = false → CellOk (On w6) b2 (0 + 0) (.int .i64 b.1)) ∧ (((!decide (b.1 = x)) && (!decide (b.1 = y))) = true → (decide (b.1 = c.1)) = false → 0 < Try.prog.cellsOf 3) ∧ (((!decide (b.1 = x)) && (!decide (b.1 = y))) = true → (decide (b.1 = c.1)) = false → CellOk (On w6) b4 (0 + 1) (.int .i64 c.2.1)) ∧ (((!decide (b.1 = x)) && (!decide (b.1 = y))) = true → (decide (b.1 = c.1)) = false → True) ∧ (((!decide (b.1 = x)) && (!decide (b.1 = y))) = true → True) ∧ (True) ∧ (True) ∧ True) hA H ⟨by decide +kernel, by exact box_cell H 1 rfl 0, trivial, trivial, trivial, fun _ => by decide +kernel, fun _ => by exact box_cell H 1 rfl 0, fun _ => trivial, fun _ => trivial, trivial, trivial, fun _ => by decide +kernel, fun _ => by exact box_cell H 1 rfl 0, fun _ => by decide +kernel, fun _ => by exact box_cell H 0 rfl 0, fun _ => trivial, fun _ => trivial, fun _ _ => by decide +kernel, fun _ _ => by exact box_cell H 1 rfl 0, fun _ _ => by decide +kernel, fun _ _ => by exact box_cell H 0 rfl 1, fun _ _ => trivial, fun _ => trivial, trivial, trivial, trivial⟩ fun a w8 hA H hG => ?_
  refine hK7 _ _ ?_
  refine go_seq fun K9 hK9 => ?_
  refine q_reg [(37, .int .i64 b.2.1), (42, .int .i64 b.2.1), (48, .int .i64 b.2.1), (50, .int .i64 c.1), (54, .int .i64 b.2.1), (56, .int .i64 c.2.1)] [(8, .bool ((((!decide (b.1 = x)) && (!decide (b.1 = y))) && ((decide (b.1 = c.1)) || (decide (b.1 = c.2.1)))) || (((!decide (b.2.1 = x)) && (!decide (b.2.1 = y))) && ((decide (b.2.1 = c.1)) || (decide (b.2.1 = c.2.1))))))] ((True) ∧ (True) ∧ ((((!decide (b.1 = x)) && (!decide (b.1 = y))) && ((decide (b.1 = c.1)) || (decide (b.1 = c.2.1)))) = false → 0 < Try.prog.cellsOf 3) ∧ ((((!decide (b.1 = x)) && (!decide (b.1 = y))) && ((decide (b.1 = c.1)) || (decide (b.1 = c.2.1)))) = false → CellOk (On w8) b2 (0 + 1) (.int .i64 b.2.1)) ∧ ((((!decide (b.1 = x)) && (!decide (b.1 = y))) && ((decide (b.1 = c.1)) || (decide (b.1 = c.2.1)))) = false → True) ∧ ((((!decide (b.1 = x)) && (!decide (b.1 = y))) && ((decide (b.1 = c.1)) || (decide (b.1 = c.2.1)))) = false → True) ∧ ((((!decide (b.1 = x)) && (!decide (b.1 = y))) && ((decide (b.1 = c.1)) || (decide (b.1 = c.2.1)))) = false → True) ∧ ((((!decide (b.1 = x)) && (!decide (b.1 = y))) && ((decide (b.1 = c.1)) || (decide (b.1 = c.2.1)))) = false → (!decide (b.2.1 = x)) = true → 0 < Try.prog.cellsOf 3) ∧ ((((!decide (b.1 = x)) && (!decide (b.1 = y))) && ((decide (b.1 = c.1)) || (decide (b.1 = c.2.1)))) = false → (!decide (b.2.1 = x)) = true → CellOk (On w8) b2 (0 + 1) (.int .i64 b.2.1)) ∧ ((((!decide (b.1 = x)) && (!decide (b.1 = y))) && ((decide (b.1 = c.1)) || (decide (b.1 = c.2.1)))) = false → (!decide (b.2.1 = x)) = true → True) ∧ ((((!decide (b.1 = x)) && (!decide (b.1 = y))) && ((decide (b.1 = c.1)) || (decide (b.1 = c.2.1)))) = false → (!decide (b.2.1 = x)) = true → True) ∧ ((((!decide (b.1 = x)) && (!decide (b.1 = y))) && ((decide (b.1 = c.1)) || (decide (b.1 = c.2.1)))) = false → True) ∧ ((((!decide (b.1 = x)) && (!decide (b.1 = y))) && ((decide (b.1 = c.1)) || (decide (b.1 = c.2.1)))) = false → True) ∧ ((((!decide (b.1 = x)) && (!decide (b.1 = y))) && ((decide (b.1 = c.1)) || (decide (b.1 = c.2.1)))) = false → ((!decide (b.2.1 = x)) && (!decide (b.2.1 = y))) = true → 0 < Try.prog.cellsOf 3) ∧ ((((!decide (b.1 = x)) && (!decide (b.1 = y))) && ((decide (b.1 = c.1)) || (decide (b.1 = c.2.1)))) = false → ((!decide (b.2.1 = x)) && (!decide (b.2.1 = y))) = true → CellOk (On w8) b2 (0 + 1) (.int .i64 b.2.1)) ∧ ((((!decide (b.1 = x)) && (!decide (b.1 = y))) && ((decide (b.1 = c.1)) || (decide (b.1 = c.2.1)))) = false → ((!decide (b.2.1 = x)) && (!decide (b.2.1 = y))) = true → 0 < Try.prog.cellsOf 3) ∧ ((((!decide (b.1 = x)) && (!decide (b.1 = y))) && ((decide (b.1 = c.1)) || (decide (b.1 = c.2.1)))) = false → ((!decide (b.2.1 = x)) && (!decide (b.2.1 = y))) = true → CellOk (On w8) b4 (0 + 0) (.int .i64 c.1)) ∧ ((((!decide (b.1 = x)) && (!decide (b.1 = y))) && ((decide (b.1 = c.1)) || (decide (b.1 = c.2.1)))) = false → ((!decide (b.2.1 = x)) && (!decide (b.2.1 = y))) = true → True) ∧ ((((!decide (b.1 = x)) && (!decide (b.1 = y))) && ((decide (b.1 = c.1)) || (decide (b.1 = c.2.1)))) = false → ((!decide (b.2.1 = x)) && (!decide (b.2.1 = y))) = true → True) ∧ ((((!decide (b.1 = x)) && (!decide (b.1 = y))) && ((decide (b.1 = c.1)) || (decide (b.1 = c.2.1)))) = false → ((!decide (b.2.1 = x)) && (!decide (b.2.1 = y))) = true → (decide (b.2.1 = c.1)) = false → 0 < Try.prog.cellsOf 3) ∧ ((((!decide (b.1 = x)) && (!decide (b.1 = y))) && ((decide (b.1 = c.1)) || (decide (b.1 = c.2.1)))) = false → ((!decide (b.2.1 = x)) && (!decide (b.2.1 = y))) = true → (decide (b.2.1 = c.1)) = false → CellOk (On w8) b2 (0 + 1) (.int .i64 b.2.1)) ∧ ((((!decide (b.1 = x)) && (!decide (b.1 = y))) && ((decide (b.1 = c.1)) || (decide (b.1 = c.2.1)))) = false → ((!decide (b.2.1 = x)) && (!decide (b.2.1 = y))) = true → (decide (b.2.1 = c.1)) = false → 0 < Try.prog.cellsOf 3) ∧ ((((!decide (b.1 = x)) && (!decide (b.1 = y))) && ((decide (b.1 = c.1)) || (decide (b.1 = c.2.1)))) = false → ((!decide (b.2.1 = x)) && (!decide (b.2.1 = y))) = true → (decide (b.2.1 = c.1)) = false → CellOk (On w8) b4 (0 + 1) (.int .i64 c.2.1)) ∧ ((((!decide (b.1 = x)) && (!decide (b.1 = y))) && ((decide (b.1 = c.1)) || (decide (b.1 = c.2.1)))) = false → ((!decide (b.2.1 = x)) && (!decide (b.2.1 = y))) = true → (decide (b.2.1 = c.1)) = false → True) ∧ ((((!decide (b.1 = x)) && (!decide (b.1 = y))) && ((decide (b.1 = c.1)) || (decide (b.1 = c.2.1)))) = false → ((!decide (b.2.1 = x)) && (!decide (b.2.1 = y))) = true → True) ∧ ((((!decide (b.1 = x)) && (!decide (b.1 = y))) && ((decide (b.1 = c.1)) || (decide (b.1 = c.2.1)))) = false → True) ∧ (True) ∧ (True) ∧ True) hA H ⟨trivial, trivial, fun _ => by decide +kernel, fun _ => by exact box_cell H 1 rfl 1, fun _ => trivial, fun _ => trivial, fun _ => trivial, fun _ _ => by decide +kernel, fun _ _ => by exact box_cell H 1 rfl 1, fun _ _ => trivial, fun _ _ => trivial, fun _ => trivial, fun _ => trivial, fun _ _ => by decide +kernel, fun _ _ => by exact box_cell H 1 rfl 1, fun _ _ => by decide +kernel, fun _ _ => by exact box_cell H 0 rfl 0, fun _ _ => trivial, fun _ _ => trivial, fun _ _ _ => by decide +kernel, fun _ _ _ => by exact box_cell H 1 rfl 1, fun _ _ _ => by decide +kernel, fun _ _ _ => by exact box_cell H 0 rfl 1, fun _ _ _ => trivial, fun _ _ => trivial, fun _ => trivial, trivial, trivial, trivial⟩ fun a w10 hA H hG => ?_
  refine hK9 _ _ ?_
  refine go_ret_ ?_
  refine ret_one 8 (.bool ((((!decide (b.1 = x)) && (!decide (b.1 = y))) && ((decide (b.1 = c.1)) || (decide (b.1 = c.2.1)))) || (((!decide (b.2.1 = x)) && (!decide (b.2.1 = y))) && ((decide (b.2.1 = c.1)) || (decide (b.2.1 = c.2.1)))))) hA ?_
  exact ans_b' (touchK_b b c x y) H.below

set_option maxRecDepth 100000 in
set_option maxHeartbeats 1000000 in
theorem req6_any (vl vm : Value) (l m : List (List Int)) (w : World) (hl : Rd (· < w.heap.size) w vl l) (hm : Rd (· < w.heap.size) w vm m) :
  Calls Try.prog 62 [vl, vm].toArray w (Ans (.bool (decide (l = m))) w) := by
  have hlen := rd_len hl
  refine enter Try.f62 27 Try.func62 fun a hA => ?_
  replace hA := env_sub [(0, vl), (1, vm)] hA
  have H := Fr.start (org w)
  refine go_seq fun K1 hK1 => ?_
  refine q_reg [] [(0, vl), (1, vm)] ((True) ∧ True) hA H ⟨trivial, trivial⟩ fun a w2 hA H hG => ?_
  refine hK1 _ _ ?_
  refine go_seq fun K3 hK3 => ?_
  refine go_seq fun K4 hK4 => ?_
  refine q_reg [(7, .int .i64 (l.length : Int)), (9, .int .i64 (m.length : Int))] [(0, vl), (1, vm), (10, .bool (!decide ((l.length : Int) = (m.length : Int))))] ((True) ∧ (LenOk vl (l.length : Int)) ∧ (True) ∧ (LenOk vm (m.length : Int)) ∧ (True) ∧ True) hA H ⟨trivial, by exact len_ok (H.arg hl), trivial, by exact len_ok (H.arg hm), trivial, trivial⟩ fun a w5 hA H hG => ?_
  refine hK4 _ _ ?_
  refine go_cond hA (.tmp 10) (!decide ((l.length : Int) = (m.length : Int))) (fun hb6 => ?_) (fun hb6 => ?_)
  · have hhb6 := of_decide_eq_false (nT hb6)
    refine go_seq fun K7 hK7 => ?_
    refine q_reg [] [(4, .bool false)] ((True) ∧ True) hA H ⟨trivial, trivial⟩ fun a w8 hA H hG => ?_
    refine hK7 _ _ ?_
    refine go_ret_ ?_
    refine ret_one 4 (.bool false) hA ?_
    exact ans_b' ((decide_eq_false (fun q => hhb6 (by rw [q]))).symm) H.below
  · have hhb6 := of_decide_eq_true (nF hb6)
    refine go_skip ?_
    refine hK3 _ _ ?_
    refine go_seq fun K9 hK9 => ?_
    refine go_seq fun K10 hK10 => ?_
    refine q_reg [] [(0, vl), (1, vm), (5, .int .i64 0)] ((True) ∧ True) hA H ⟨trivial, trivial⟩ fun a w11 hA H hG => ?_
    refine hK10 _ _ ?_
    refine go_block 0 ?_
    refine go_loop_ (Int) (fun x_ a W => (fun (i : Int) => EnvOk 27 a (keepEnv [(0, vl), (1, vm), (5, .int .i64 i)]) ∧ (∃ S, Fr (org w) W S []) ∧ 0 ≤ i ∧ ∀ j : Nat, (j : Int) < i → l.getD j [] = m.getD j []) x_) (fun x_ => (fun (i : Int) => ((l.length : Int) - i).toNat) x_) (0) ?_ (fun i a w13 hI => ?_)
    · (try dsimp only); exact ⟨env_sub _ hA, ⟨_, H⟩, by omega, fun j hj => by omega⟩
    obtain ⟨hA, ⟨S, H⟩, h0, hok⟩ := hI
    try dsimp only at h0 hok
    refine go_seq fun K14 hK14 => ?_
    refine go_seq fun K15 hK15 => ?_
    refine q_reg [(13, .int .i64 (l.length : Int))] [(0, vl), (1, vm), (5, .int .i64 i), (14, .bool (decide (i < (l.length : Int))))] ((True) ∧ (True) ∧ (LenOk vl (l.length : Int)) ∧ (True) ∧ True) hA H ⟨trivial, trivial, by exact len_ok (H.arg hl), trivial, trivial⟩ fun a w16 hA H hG => ?_
    refine hK15 _ _ ?_
    refine go_cond hA (.tmp 14) (decide (i < (l.length : Int))) (fun hb17 => ?_) (fun hb17 => ?_)
    · have hhb17 := of_decide_eq_true hb17
      refine go_skip ?_
      refine hK14 _ _ ?_
      refine go_seq fun K18 hK18 => ?_
      refine go_block 1 ?_
      refine go_seq fun K19 hK19 => ?_
      obtain ⟨eu20, heu20c, heu20r⟩ := cell_sliceC (C := On w16) H.keepsA hl i
      replace heu20r := heu20r (by omega) (by omega)
      obtain ⟨eu21, heu21c, heu21r⟩ := cell_sliceC (C := On w16) H.keepsA hm i
      replace heu21r := heu21r (by omega) (by omega)
      refine q_draw [(20, eu20), (24, eu21), (25, .bool (decide ((l.getD i.toNat []) = (m.getD i.toNat []))))] [(0, vl), (1, vm), (5, .int .i64 i), (26, .bool (!(decide ((l.getD i.toNat []) = (m.getD i.toNat [])))))] ((True) ∧ (True) ∧ ((Try.prog.info? 27).isSome = true ∧ IdxOk vl i) ∧ (CellOk (On w16) (hdB vl) (hdO vl + i.toNat * 1) (eu20)) ∧ (True) ∧ (True) ∧ ((Try.prog.info? 27).isSome = true ∧ IdxOk vm i) ∧ (CellOk (On w16) (hdB vm) (hdO vm + i.toNat * 1) (eu21)) ∧ (Callable Try.prog 36 ∧ CallOk Try.prog (On w16) 36 [eu20, eu21].toArray (.bool (decide ((l.getD i.toNat []) = (m.getD i.toNat []))))) ∧ (True) ∧ True) hA H ⟨trivial, trivial, ⟨by kernel_rfl, by exact idx_ok (H.arg hl) (by omega) (by omega)⟩, by exact heu20c (by omega) (by omega), trivial, trivial, ⟨by kernel_rfl, by exact idx_ok (H.arg hm) (by omega) (by omega)⟩, by exact heu21c (by omega) (by omega), ⟨callable_of, callOk_of fun w hw => by exact requal_any eu20 eu21 (l.getD i.toNat []) (m.getD i.toNat []) w (((H.on hw).arg heu20r)) (((H.on hw).arg heu21r))⟩, trivial, trivial⟩ fun a w22 hA H hG => ?_
      refine hK19 _ _ ?_
      refine go_cond hA (.tmp 26) (!(decide ((l.getD i.toNat []) = (m.getD i.toNat [])))) (fun hb23 => ?_) (fun hb23 => ?_)
      · have hhb23 := of_decide_eq_false (nT hb23)
        refine go_seq fun K24 hK24 => ?_
        refine q_reg [] [(4, .bool false)] ((True) ∧ True) hA H ⟨trivial, trivial⟩ fun a w25 hA H hG => ?_
        refine hK24 _ _ ?_
        refine go_ret_ ?_
        refine ret_one 4 (.bool false) hA ?_
        exact ans_b' ((decide_eq_false (fun q => hhb23 (by rw [q]))).symm) H.below
      · have hhb23 := of_decide_eq_true (nF hb23)
        refine go_skip ?_
        refine hK18 _ _ ?_
        refine q_reg [] [(0, vl), (1, vm), (5, .int .i64 (i + 1))] ((True) ∧ (InR .i64 (i + 1)) ∧ (True) ∧ True) hA H ⟨trivial, ⟨by omega, by omega⟩, trivial, trivial⟩ fun a w26 hA H hG => ?_
        refine ⟨(i + 1), ⟨env_sub _ hA, ⟨_, H⟩, ?_⟩, ?_⟩
        · (try dsimp only); exact ⟨by omega, fun j hj => if e : (j : Int) = i then (by rw [show j = i.toNat by omega]; exact hhb23) else hok j (by omega)⟩
        · (try dsimp only); omega
    · have hhb17 := of_decide_eq_false hb17
      refine go_exit 0 ?_
      refine hK9 _ _ ?_
      refine go_seq fun K27 hK27 => ?_
      refine q_reg [] [(4, .bool true)] ((True) ∧ True) hA H ⟨trivial, trivial⟩ fun a w28 hA H hG => ?_
      refine hK27 _ _ ?_
      refine go_ret_ ?_
      refine ret_one 4 (.bool true) hA ?_
      exact ans_b' ((decide_eq_true (eq_of_getDL hhb6 (fun j hj => hok j (by omega)))).symm) H.below

end Go.Proofs.Ytahonnlgkmimlaa

set_option linter.unusedSimpArgs false
set_option linter.unusedVariables false
namespace Go.Proofs.Ytahonnlgkmimlaa
open Go.RowKit

theorem mem_mergeL {a b : List Int} (ha : Asc a) (hb : Asc b) : Asc (mergeL a b 1) ∧ ∀ x, x ∈ mergeL a b 1 ↔ x ∈ a ∨ x ∈ b := by
  obtain ⟨h1, h2⟩ := mgF_spec 1 (a.length + b.length) a b (Nat.le_refl _) ha hb
  refine ⟨h1, fun x => (h2 x).trans ⟨fun h => ?_, fun h => .inl ⟨rfl, h⟩⟩⟩
  rcases h with h | h
  · exact h.2
  · exact .inl h.1
structure RvI (l : List Lk) (i : Int) (e : List Int) : Prop where
  asc : Asc e
  mem : ∀ x, x ∈ e ↔ x ∈ endsK (l.take i.toNat)
  len : (e.length : Int) ≤ 2 * i
theorem rv_start (l : List Lk) : RvI l 0 [] := ⟨.nil, fun x => by simp [endsK], by simp⟩
theorem rv_len1 {l : List Lk} {i a : Int} {e : List Int} (h : RvI l i e) : ((mergeL e [a] 1).length : Int) ≤ 2 * i + 1 := by
  have := mergeL_len e [a] 1; have := h.len; simp only [List.length_cons, List.length_nil] at *; omega
theorem rv_step {l : List Lk} {i : Int} {e : List Int} (h : RvI l i e) (h0 : 0 ≤ i) (h1 : i < (l.length : Int)) : RvI l (i + 1) (mergeL (mergeL e [min (lkA l i) (lkB l i)] 1) [max (lkA l i) (lkB l i)] 1) := by
  obtain ⟨a1, a2⟩ := mem_mergeL h.asc (show Asc [min (lkA l i) (lkB l i)] from List.pairwise_singleton _ _)
  obtain ⟨b1, b2⟩ := mem_mergeL a1 (show Asc [max (lkA l i) (lkB l i)] from List.pairwise_singleton _ _)
  refine ⟨b1, fun x => ?_, ?_⟩
  · rw [b2, a2, h.mem, endsK_snoc h0 h1, List.mem_append]
    simp only [List.mem_cons, List.not_mem_nil, or_false]
    rw [or_assoc]; exact or_congr_right (by omega)
  · have := mergeL_len (mergeL e [min (lkA l i) (lkB l i)] 1) [max (lkA l i) (lkB l i)] 1
    have := rv_len1 (a := min (lkA l i) (lkB l i)) h
    simp only [List.length_cons, List.length_nil] at *; omega
theorem rv_end {l : List Lk} {i : Int} {e : List Int} (h : RvI l i e) (hi : (l.length : Int) ≤ i) : e = vertsL l := by
  obtain ⟨h1, h2⟩ := compact_sort (endsK l)
  refine asc_ext h.asc h1 fun x => ?_
  have h3 : x ∈ vertsL l ↔ x ∈ endsK l := h2 x
  rw [h.mem, h3, List.take_of_length_le (by omega)]
def ringR (l : List Lk) : Bool := decide (2 ≤ (l.length : Int)) && decide (((vertsL l).length : Int) = (l.length : Int))
/-- The reference's splits. -/
def spC (l : List Lk) (u v : Int) (cs : List (List Int)) : List (Int × Int × List Int) := candC l u v cs
def spV (l : List Lk) (u : Int) (vs : List Int) : List (Int × Int × List Int) := candV l u vs
def spU (l : List Lk) : List Int → List (Int × Int × List Int)
  | [] => []
  | u :: us => candV l u us ++ spU l us
def splitsR (l : List Lk) : List (Int × Int × List Int) := if ringR l = true then [] else spU l (vertsL l)
def kindR (l : List Lk) : Int := if (l.length : Int) = 1 then 0 else if ringR l = true then 1 else if ((vertsL l).length : Int) = 2 then 2 else if ((splitsR l).length : Int) = 0 then 3 else 4
end Go.Proofs.Ytahonnlgkmimlaa

set_option linter.unusedSimpArgs false
set_option linter.unusedVariables false
namespace Go.Proofs.Ytahonnlgkmimlaa
open Go.RowKit

set_option maxRecDepth 100000 in
set_option maxHeartbeats 1000000 in
theorem rverts_any (vl : Value) (l : List (Int × Int × Int)) (o : Orig) (hL : Rd (· < o.w.heap.size) o.w vl l) (hs : l.length ≤ 100000) :
  Calls Try.prog 58 [vl].toArray o.w (Giv o (fun S v w' => Rd S w' v (vertsL l))) := by
  refine enter Try.f58 40 Try.func58 fun a hA => ?_
  replace hA := env_sub [(0, vl)] hA
  have H := Fr.start o
  refine go_seq fun K1 hK1 => ?_
  refine q_reg [] [(0, vl)] ((True) ∧ True) hA H ⟨trivial, trivial⟩ fun a w2 hA H hG => ?_
  refine hK1 _ _ ?_
  refine go_seq fun K3 hK3 => ?_
  refine q_reg [] [(0, vl), (3, (.slice none 0 0))] ((True) ∧ True) hA H ⟨trivial, trivial⟩ fun a w4 hA H hG => ?_
  refine hK3 _ _ ?_
  refine go_seq fun K5 hK5 => ?_
  refine go_seq fun K6 hK6 => ?_
  refine q_reg [] [(0, vl), (3, (.slice none 0 0)), (4, .int .i64 0)] ((True) ∧ True) hA H ⟨trivial, trivial⟩ fun a w7 hA H hG => ?_
  refine hK6 _ _ ?_
  refine go_block 0 ?_
  replace H := H.ro (rd_nil (α := Int))
  refine go_loop_ (Int × Value × List Int) (fun x_ a W => (fun (i : Int) (vr : Value) (e : List Int) => EnvOk 40 a (keepEnv [(0, vl), (3, vr), (4, .int .i64 i)]) ∧ (∃ S, Fr o W S [.ro vr e]) ∧ 0 ≤ i ∧ i ≤ (l.length : Int) ∧ RvI l i e) x_.1 x_.2.1 x_.2.2) (fun x_ => (fun (i : Int) (vr : Value) (e : List Int) => ((l.length : Int) - i).toNat) x_.1 x_.2.1 x_.2.2) (0, .slice none 0 0, []) ?_ (fun x_ a w9 hI => ?_)
  · (try dsimp only); exact ⟨env_sub _ hA, ⟨_, H⟩, by omega, by omega, rv_start l⟩
  obtain ⟨i, vr, e⟩ := x_
  obtain ⟨hA, ⟨S, H⟩, h0, h0b, hi⟩ := hI
  try dsimp only at h0 h0b hi
  replace H : Fr _ _ _ [.ro vr e] := H
  have hel := hi.len
  refine go_seq fun K10 hK10 => ?_
  refine go_seq fun K11 hK11 => ?_
  refine q_reg [(7, .int .i64 (l.length : Int))] [(0, vl), (3, vr), (4, .int .i64 i), (8, .bool (decide (i < (l.length : Int))))] ((True) ∧ (True) ∧ (LenOk vl (l.length : Int)) ∧ (True) ∧ True) hA H ⟨trivial, trivial, by exact len_ok (H.arg hL), trivial, trivial⟩ fun a w12 hA H hG => ?_
  refine hK11 _ _ ?_
  refine go_cond hA (.tmp 8) (decide (i < (l.length : Int))) (fun hb13 => ?_) (fun hb13 => ?_)
  · have hhb13 := of_decide_eq_true hb13
    refine go_skip ?_
    refine hK10 _ _ ?_
    refine go_seq fun K14 hK14 => ?_
    refine go_block 1 ?_
    refine go_seq fun K15 hK15 => ?_
    have H0 := H
    have hM0 := H0.keeps none (.inl rfl)
    refine region_mix (But w12 none) [0, 1, 2, 3, 4, 5, 6, 7, 8, 9, 10, 11, 12, 13] 15 ?_
    replace H := H.drawn; have hD := But.drew w12 none
    generalize ({ w12 with drawn := w12.drawn + 1 } : World) = w16 at H hD ⊢
    refine m_take (n := 3) [0, 1, 2, 3, 4, 5, 6, 7, 8, 9, 10, 11] #[true, true, true, true, true, true, true, true, true, true, true, true, false, false, false] [(16, .int .i64 ((l.getD i.toNat (0, (0, 0))).1)), (21, .int .i64 (((l.getD i.toNat (0, (0, 0))).2).1)), (22, .int .i64 (min ((l.getD i.toNat (0, (0, 0))).1) (((l.getD i.toNat (0, (0, 0))).2).1)))] [(0, vl), (3, vr), (4, .int .i64 i), (11, vr), (22, .int .i64 (min ((l.getD i.toNat (0, (0, 0))).1) (((l.getD i.toNat (0, (0, 0))).2).1)))] ((True) ∧ (True) ∧ (True) ∧ ((Try.prog.info? 113).isSome = true ∧ IdxOk vl i) ∧ (0 < Try.prog.cellsOf 3) ∧ (CellOk (But w12 none) (hdB vl) (hdO vl + i.toNat * 3 + 0) (.int .i64 ((l.getD i.toNat (0, (0, 0))).1))) ∧ (True) ∧ (True) ∧ ((Try.prog.info? 113).isSome = true ∧ IdxOk vl i) ∧ (0 < Try.prog.cellsOf 3) ∧ (CellOk (But w12 none) (hdB vl) (hdO vl + i.toNat * 3 + 1) (.int .i64 (((l.getD i.toNat (0, (0, 0))).2).1))) ∧ (∀ ty w, (Builtin.min_ #[3, 3] ty [.int .i64 ((l.getD i.toNat (0, (0, 0))).1), .int .i64 (((l.getD i.toNat (0, (0, 0))).2).1)].toArray).run Try.prog w = .ok (.int .i64 (min ((l.getD i.toNat (0, (0, 0))).1) (((l.getD i.toNat (0, (0, 0))).2).1))) w) ∧ True) hA hD ⟨trivial, trivial, trivial, ⟨by kernel_rfl, by exact idx_ok (H0.argT hL) (by omega) (by omega)⟩, by decide +kernel, by exact cell_flatC hM0 (i := i) (H0.argT hL) (by omega) (by omega) (0, (0, 0)) 0, trivial, trivial, ⟨by kernel_rfl, by exact idx_ok (H0.argT hL) (by omega) (by omega)⟩, by decide +kernel, by exact cell_flatC hM0 (i := i) (H0.argT hL) (by omega) (by omega) (0, (0, 0)) 1, fun ty w => min_ok ty w, trivial⟩ fun a hA => ?_
    refine m_one 12 ?_; refine q_lit 12 23 27 1 #[(0, .tmp 22)] 3 [(0, .int .i64 (min ((l.getD i.toNat (0, (0, 0))).1) (((l.getD i.toNat (0, (0, 0))).2).1)))] [.int .i64 (min ((l.getD i.toNat (0, (0, 0))).1) (((l.getD i.toNat (0, (0, 0))).2).1))] [(0, vl), (3, vr), (4, .int .i64 i), (11, vr)] hA H fun b17 a w18 H hA hG hge_b17 => ?_
    replace hge_b17 := Nat.le_trans hD.1 hge_b17
    replace hD := hD.below hG
    refine ⟨fun _ => hD, ?_⟩
    refine m_one 13 ?_; refine q_call 13 24 44 #[.tmp 11, .tmp 23] #[27, 27] [vr, (.slice (some ⟨b17, 0, none⟩) 1 1)] (fun S v_ w' => Rd S w' v_ (mergeL e ([min ((l.getD i.toNat (0, (0, 0))).1) (((l.getD i.toNat (0, (0, 0))).2).1)] : List Int) 1)) [(0, vl), (3, vr), (4, .int .i64 i)] hA H (by exact ror_any vr (.slice (some ⟨b17, 0, none⟩) 1 1) e ([min ((l.getD i.toNat (0, (0, 0))).1) (((l.getD i.toNat (0, (0, 0))).2).1)] : List Int) H.at ((H.get 1 rfl)) ((H.lit 0 rfl (l := ([min ((l.getD i.toNat (0, (0, 0))).1) (((l.getD i.toNat (0, (0, 0))).2).1)] : List Int)) (by exact (RowRd.single (α := Int) (a := min ((l.getD i.toNat (0, (0, 0))).1) (((l.getD i.toNat (0, (0, 0))).2).1)) (by exact rfl))) (n := 1) rfl (by decide))) (by omega) (by simp only [List.length_cons, List.length_nil]; omega)) fun v19 a w20 S hR21 H hA hG => ?_
    replace H := H.ro hR21
    replace hD := hD.below hG
    refine ⟨fun _ => hD, ?_⟩
    refine m_one 14 ?_; refine q_one 14 [] [(0, vl), (3, v19), (4, .int .i64 i)] ((True) ∧ True) hA H ⟨trivial, trivial⟩ fun a w23 H hA hG => ?_
    refine ⟨fun h => absurd h (by decide), ?_⟩
    refine m_end ?_
    refine hK15 _ _ ?_
    have hel1 := rv_len1 (a := min (lkA l i) (lkB l i)) hi
    unfold lkA lkB at hel1
    have H0 := H
    have hM0 := H0.keeps none (.inl rfl)
    refine region_mix (But w23 none) [0, 1, 2, 3, 4, 5, 6, 7, 8, 9, 10, 11, 12, 13] 15 ?_
    replace H := H.drawn; have hD := But.drew w23 none
    generalize ({ w23 with drawn := w23.drawn + 1 } : World) = w24 at H hD ⊢
    refine m_take (n := 3) [0, 1, 2, 3, 4, 5, 6, 7, 8, 9, 10, 11] #[true, true, true, true, true, true, true, true, true, true, true, true, false, false, false] [(30, .int .i64 ((l.getD i.toNat (0, (0, 0))).1)), (35, .int .i64 (((l.getD i.toNat (0, (0, 0))).2).1)), (36, .int .i64 (max ((l.getD i.toNat (0, (0, 0))).1) (((l.getD i.toNat (0, (0, 0))).2).1)))] [(0, vl), (3, v19), (4, .int .i64 i), (25, v19), (36, .int .i64 (max ((l.getD i.toNat (0, (0, 0))).1) (((l.getD i.toNat (0, (0, 0))).2).1)))] ((True) ∧ (True) ∧ (True) ∧ ((Try.prog.info? 113).isSome = true ∧ IdxOk vl i) ∧ (0 < Try.prog.cellsOf 3) ∧ (CellOk (But w23 none) (hdB vl) (hdO vl + i.toNat * 3 + 0) (.int .i64 ((l.getD i.toNat (0, (0, 0))).1))) ∧ (True) ∧ (True) ∧ ((Try.prog.info? 113).isSome = true ∧ IdxOk vl i) ∧ (0 < Try.prog.cellsOf 3) ∧ (CellOk (But w23 none) (hdB vl) (hdO vl + i.toNat * 3 + 1) (.int .i64 (((l.getD i.toNat (0, (0, 0))).2).1))) ∧ (∀ ty w, (Builtin.max_ #[3, 3] ty [.int .i64 ((l.getD i.toNat (0, (0, 0))).1), .int .i64 (((l.getD i.toNat (0, (0, 0))).2).1)].toArray).run Try.prog w = .ok (.int .i64 (max ((l.getD i.toNat (0, (0, 0))).1) (((l.getD i.toNat (0, (0, 0))).2).1))) w) ∧ True) hA hD ⟨trivial, trivial, trivial, ⟨by kernel_rfl, by exact idx_ok (H0.argT hL) (by omega) (by omega)⟩, by decide +kernel, by exact cell_flatC hM0 (i := i) (H0.argT hL) (by omega) (by omega) (0, (0, 0)) 0, trivial, trivial, ⟨by kernel_rfl, by exact idx_ok (H0.argT hL) (by omega) (by omega)⟩, by decide +kernel, by exact cell_flatC hM0 (i := i) (H0.argT hL) (by omega) (by omega) (0, (0, 0)) 1, fun ty w => max_ok ty w, trivial⟩ fun a hA => ?_
    refine m_one 12 ?_; refine q_lit 12 37 27 1 #[(0, .tmp 36)] 3 [(0, .int .i64 (max ((l.getD i.toNat (0, (0, 0))).1) (((l.getD i.toNat (0, (0, 0))).2).1)))] [.int .i64 (max ((l.getD i.toNat (0, (0, 0))).1) (((l.getD i.toNat (0, (0, 0))).2).1))] [(0, vl), (3, v19), (4, .int .i64 i), (25, v19)] hA H fun b25 a w26 H hA hG hge_b25 => ?_
    replace hge_b25 := Nat.le_trans hD.1 hge_b25
    replace hD := hD.below hG
    refine ⟨fun _ => hD, ?_⟩
    refine m_one 13 ?_; refine q_call 13 38 44 #[.tmp 25, .tmp 37] #[27, 27] [v19, (.slice (some ⟨b25, 0, none⟩) 1 1)] (fun S v_ w' => Rd S w' v_ (mergeL (mergeL e ([min ((l.getD i.toNat (0, (0, 0))).1) (((l.getD i.toNat (0, (0, 0))).2).1)] : List Int) 1) ([max ((l.getD i.toNat (0, (0, 0))).1) (((l.getD i.toNat (0, (0, 0))).2).1)] : List Int) 1)) [(0, vl), (3, v19), (4, .int .i64 i)] hA H (by exact ror_any v19 (.slice (some ⟨b25, 0, none⟩) 1 1) (mergeL e ([min ((l.getD i.toNat (0, (0, 0))).1) (((l.getD i.toNat (0, (0, 0))).2).1)] : List Int) 1) ([max ((l.getD i.toNat (0, (0, 0))).1) (((l.getD i.toNat (0, (0, 0))).2).1)] : List Int) H.at ((H.get 1 rfl)) ((H.lit 0 rfl (l := ([max ((l.getD i.toNat (0, (0, 0))).1) (((l.getD i.toNat (0, (0, 0))).2).1)] : List Int)) (by exact (RowRd.single (α := Int) (a := max ((l.getD i.toNat (0, (0, 0))).1) (((l.getD i.toNat (0, (0, 0))).2).1)) (by exact rfl))) (n := 1) rfl (by decide))) (by omega) (by simp only [List.length_cons, List.length_nil]; omega)) fun v27 a w28 S hR29 H hA hG => ?_
    replace H := H.ro hR29
    replace hD := hD.below hG
    refine ⟨fun _ => hD, ?_⟩
    refine m_one 14 ?_; refine q_one 14 [] [(0, vl), (3, v27), (4, .int .i64 i)] ((True) ∧ True) hA H ⟨trivial, trivial⟩ fun a w31 H hA hG => ?_
    refine ⟨fun h => absurd h (by decide), ?_⟩
    refine m_end ?_
    refine hK14 _ _ ?_
    refine q_reg [] [(0, vl), (3, v27), (4, .int .i64 (i + 1))] ((True) ∧ (InR .i64 (i + 1)) ∧ (True) ∧ True) hA H ⟨trivial, ⟨by omega, by omega⟩, trivial, trivial⟩ fun a w32 hA H hG => ?_
    replace H := H.drop 4
    replace H := Fr.order [.ro v27 (mergeL (mergeL e ([min ((l.getD i.toNat (0, (0, 0))).1) (((l.getD i.toNat (0, (0, 0))).2).1)] : List Int) 1) ([max ((l.getD i.toNat (0, (0, 0))).1) (((l.getD i.toNat (0, (0, 0))).2).1)] : List Int) 1), .box b25 3 [.int .i64 (max ((l.getD i.toNat (0, (0, 0))).1) (((l.getD i.toNat (0, (0, 0))).2).1))], .ro v19 (mergeL e ([min ((l.getD i.toNat (0, (0, 0))).1) (((l.getD i.toNat (0, (0, 0))).2).1)] : List Int) 1), .box b17 3 [.int .i64 (min ((l.getD i.toNat (0, (0, 0))).1) (((l.getD i.toNat (0, (0, 0))).2).1))]] [] H [0, 1, 2, 3] (by show List.Perm _ (List.range 4); decide)
    replace H : Fr _ _ _ [.ro v27 (mergeL (mergeL e ([min ((l.getD i.toNat (0, (0, 0))).1) (((l.getD i.toNat (0, (0, 0))).2).1)] : List Int) 1) ([max ((l.getD i.toNat (0, (0, 0))).1) (((l.getD i.toNat (0, (0, 0))).2).1)] : List Int) 1), .box b25 3 [.int .i64 (max ((l.getD i.toNat (0, (0, 0))).1) (((l.getD i.toNat (0, (0, 0))).2).1))], .ro v19 (mergeL e ([min ((l.getD i.toNat (0, (0, 0))).1) (((l.getD i.toNat (0, (0, 0))).2).1)] : List Int) 1), .box b17 3 [.int .i64 (min ((l.getD i.toNat (0, (0, 0))).1) (((l.getD i.toNat (0, (0, 0))).2).1))]] := H
    replace H := H.drop 3
    replace H := H.drop 2
    replace H := H.drop 1
    refine ⟨(i + 1, v27, mergeL (mergeL e ([min ((l.getD i.toNat (0, (0, 0))).1) (((l.getD i.toNat (0, (0, 0))).2).1)] : List Int) 1) ([max ((l.getD i.toNat (0, (0, 0))).1) (((l.getD i.toNat (0, (0, 0))).2).1)] : List Int) 1), ⟨env_sub _ hA, ⟨_, H⟩, ?_⟩, ?_⟩
    · (try dsimp only); exact ⟨by omega, by omega, rv_step hi h0 (by omega)⟩
    · (try dsimp only); omega
  · have hhb13 := of_decide_eq_false hb13
    refine go_exit 0 ?_
    refine hK5 _ _ ?_
    refine go_seq fun K33 hK33 => ?_
    refine q_reg [] [(2, vr)] ((True) ∧ (True) ∧ True) hA H ⟨trivial, trivial, trivial⟩ fun a w34 hA H hG => ?_
    refine hK33 _ _ ?_
    refine go_ret_ ?_
    refine ret_one 2 vr hA ?_
    have ho := (H.giveRo 0 rfl)
    rw [rv_end hi (by omega)] at ho; exact ⟨_, rfl, ho, H.below⟩

end Go.Proofs.Ytahonnlgkmimlaa

set_option linter.unusedSimpArgs false
set_option linter.unusedVariables false
namespace Go.Proofs.Ytahonnlgkmimlaa
open Go.RowKit

set_option maxRecDepth 100000 in
set_option maxHeartbeats 8000000 in
theorem rclasses_any (vl : Value) (l : List (Int × Int × Int)) (x y : Int) (o : Orig) (hL : Rd (· < o.w.heap.size) o.w vl l) (hs : l.length ≤ 100000) (hx : -9223372036854775808 ≤ x ∧ x ≤ 9223372036854775807) (hy : -9223372036854775808 ≤ y ∧ y ≤ 9223372036854775807) :
  Calls Try.prog 63 [vl, .int .i64 x, .int .i64 y].toArray o.w (Giv o (fun S v w' => Rd S w' v (classesL l x y))) := by
  refine enter Try.f63 83 Try.func63 fun a hA => ?_
  replace hA := env_sub [(0, vl), (1, .int .i64 x), (2, .int .i64 y)] hA
  have H := Fr.start o
  refine go_seq fun K1 hK1 => ?_
  refine q_reg [] [(0, vl), (1, .int .i64 x), (2, .int .i64 y)] ((True) ∧ True) hA H ⟨trivial, trivial⟩ fun a w2 hA H hG => ?_
  refine hK1 _ _ ?_
  refine go_seq fun K3 hK3 => ?_
  refine q_reg [] [(0, vl), (1, .int .i64 x), (2, .int .i64 y), (7, (.slice none 0 0))] ((True) ∧ True) hA H ⟨trivial, trivial⟩ fun a w4 hA H hG => ?_
  refine hK3 _ _ ?_
  refine go_seq fun K5 hK5 => ?_
  refine q_reg [] [(0, vl), (1, .int .i64 x), (2, .int .i64 y), (7, (.slice none 0 0)), (8, (.slice none 0 0))] ((True) ∧ True) hA H ⟨trivial, trivial⟩ fun a w6 hA H hG => ?_
  refine hK5 _ _ ?_
  refine go_seq fun K7 hK7 => ?_
  refine go_seq fun K8 hK8 => ?_
  refine q_reg [] [(0, vl), (1, .int .i64 x), (2, .int .i64 y), (7, (.slice none 0 0)), (8, (.slice none 0 0)), (9, .int .i64 0)] ((True) ∧ True) hA H ⟨trivial, trivial⟩ fun a w9 hA H hG => ?_
  refine hK8 _ _ ?_
  refine go_block 0 ?_
  replace H := H.newRow (α := Int) 3
  replace H := H.newRow (α := List Int) 27
  refine go_loop_ (Int × Value × List (List Int) × Value × List Int) (fun x_ a W => (fun (i : Int) (vo : Value) (out : List (List Int)) (vd : Value) (d : List Int) => EnvOk 83 a (keepEnv [(0, vl), (1, .int .i64 x), (2, .int .i64 y), (7, vo), (8, vd), (9, .int .i64 i)]) ∧ (∃ S, Fr o W S [.row 27 vo out, .row 3 vd d]) ∧ 0 ≤ i ∧ i ≤ (l.length : Int) ∧ (out.length : Int) ≤ i ∧ Dn l x y i d out) x_.1 x_.2.1 x_.2.2.1 x_.2.2.2.1 x_.2.2.2.2) (fun x_ => (fun (i : Int) (vo : Value) (out : List (List Int)) (vd : Value) (d : List Int) => ((l.length : Int) - i).toNat) x_.1 x_.2.1 x_.2.2.1 x_.2.2.2.1 x_.2.2.2.2) (0, .slice none 0 0, [], .slice none 0 0, []) ?_ (fun x_ a w11 hI => ?_)
  · (try dsimp only); exact ⟨env_sub _ hA, ⟨_, H⟩, by omega, by omega, by simp, dn_start⟩
  obtain ⟨i, vo, out, vd, d⟩ := x_
  obtain ⟨hA, ⟨S, H⟩, h0, h0b, h1, hd⟩ := hI
  try dsimp only at h0 h0b h1 hd
  replace H : Fr _ _ _ [.row 27 vo out, .row 3 vd d] := H
  have hdl := dn_len hd
  refine go_seq fun K12 hK12 => ?_
  refine go_seq fun K13 hK13 => ?_
  refine q_reg [(17, .int .i64 (l.length : Int))] [(0, vl), (1, .int .i64 x), (2, .int .i64 y), (7, vo), (8, vd), (9, .int .i64 i), (18, .bool (decide (i < (l.length : Int))))] ((True) ∧ (True) ∧ (LenOk vl (l.length : Int)) ∧ (True) ∧ True) hA H ⟨trivial, trivial, by exact len_ok (H.arg hL), trivial, trivial⟩ fun a w14 hA H hG => ?_
  refine hK13 _ _ ?_
  refine go_cond hA (.tmp 18) (decide (i < (l.length : Int))) (fun hb15 => ?_) (fun hb15 => ?_)
  · have hhb15 := of_decide_eq_true hb15
    refine go_skip ?_
    refine hK12 _ _ ?_
    refine go_seq fun K16 hK16 => ?_
    refine go_block 1 ?_
    refine go_seq fun K17 hK17 => ?_
    refine go_seq fun K18 hK18 => ?_
    refine q_reg [(23, .bool (decide (i ∈ d)))] [(0, vl), (1, .int .i64 x), (2, .int .i64 y), (7, vo), (8, vd), (9, .int .i64 i), (23, .bool (decide (i ∈ d)))] ((True) ∧ (True) ∧ (Callable Try.prog 24 ∧ CallOk Try.prog (On w14) 24 [vd, .int .i64 i].toArray (.bool (decide (i ∈ d)))) ∧ True) hA H ⟨trivial, trivial, ⟨callable_of, callOk_of fun w hw => by exact in_any vd d i w (((H.on hw).out 1 rfl))⟩, trivial⟩ fun a w19 hA H hG => ?_
    refine hK18 _ _ ?_
    refine go_cond hA (.tmp 23) (decide (i ∈ d)) (fun hb20 => ?_) (fun hb20 => ?_)
    · have hhb20 := of_decide_eq_true hb20
      refine go_exit 1 ?_
      refine hK16 _ _ ?_
      refine q_reg [] [(0, vl), (1, .int .i64 x), (2, .int .i64 y), (7, vo), (8, vd), (9, .int .i64 (i + 1))] ((True) ∧ (InR .i64 (i + 1)) ∧ (True) ∧ True) hA H ⟨trivial, ⟨by omega, by omega⟩, trivial, trivial⟩ fun a w21 hA H hG => ?_
      replace H := Fr.order [.row 27 vo out, .row 3 vd d] [] H [0, 1] (by show List.Perm _ (List.range 2); decide)
      replace H : Fr _ _ _ [.row 27 vo out, .row 3 vd d] := H
      refine ⟨(i + 1, vo, out, vd, d), ⟨env_sub _ hA, ⟨_, H⟩, ?_⟩, ?_⟩
      · (try dsimp only); exact ⟨by omega, by omega, by (try simp only [List.length_append, List.length_cons, List.length_nil]); omega, dn_skip hd h0 hhb20⟩
      · (try dsimp only); omega
    · have hhb20 := of_decide_eq_false hb20
      refine go_skip ?_
      refine hK17 _ _ ?_
      refine go_seq fun K22 hK22 => ?_
      refine region_list ?_
      refine q_list 0 1 [] [(0, vl), (1, .int .i64 x), (2, .int .i64 y), (7, vo), (8, vd), (9, .int .i64 i), (24, .int .i64 i)] ((True) ∧ True) hA H ⟨trivial, trivial⟩ fun a w23 hA H hG => ?_
      refine list_at 1 ?_; refine q_lit 1 25 27 1 #[(0, .tmp 24)] 3 [(0, .int .i64 i)] [.int .i64 i] [(0, vl), (1, .int .i64 x), (2, .int .i64 y), (7, vo), (8, vd), (9, .int .i64 i)] hA H fun b24 a w25 H hA hG hge_b24 => ?_
      clear hge_b24
      refine q_list 2 1 [] [(0, vl), (1, .int .i64 x), (2, .int .i64 y), (7, vo), (8, vd), (9, .int .i64 i), (10, (.slice (some ⟨b24, 0, none⟩) 1 1))] ((True) ∧ True) hA H ⟨trivial, trivial⟩ fun a w26 hA H hG => ?_
      refine list_end ?_
      refine hK22 _ _ ?_
      refine go_seq fun K27 hK27 => ?_
      refine go_seq fun K28 hK28 => ?_
      have hni : ¬ i ∈ d := hhb20
      replace H := H.rowBox 0 rfl (l := [i]) (by exact RowRd.single (α := Int) (a := i) rfl) (n := 1) rfl (by decide)
      replace H : Fr _ _ _ [.row 3 (.slice (some ⟨b24, 0, none⟩) 1 1) [i], .row 27 vo out, .row 3 vd d] := H
      replace H := Fr.order [.row 3 (.slice (some ⟨b24, 0, none⟩) 1 1) [i], .row 27 vo out, .row 3 vd d] [] H [0, 1, 2] (by show List.Perm _ (List.range 3); decide)
      replace H : Fr _ _ _ [.row 3 (.slice (some ⟨b24, 0, none⟩) 1 1) [i], .row 27 vo out, .row 3 vd d] := H
      refine q_reg [] [(0, vl), (1, .int .i64 x), (2, .int .i64 y), (7, vo), (8, vd), (9, .int .i64 i), (10, (.slice (some ⟨b24, 0, none⟩) 1 1)), (11, .int .i64 0)] ((True) ∧ True) hA H ⟨trivial, trivial⟩ fun a w29 hA H hG => ?_
      refine hK28 _ _ ?_
      refine go_block 2 ?_
      refine go_loop_ (Int × Value × List Int) (fun x_ a W => (fun (k : Int) (vc : Value) (c : List Int) => EnvOk 83 a (keepEnv [(0, vl), (1, .int .i64 x), (2, .int .i64 y), (7, vo), (8, vd), (9, .int .i64 i), (10, vc), (11, .int .i64 k)]) ∧ (∃ S, Fr o W S [.row 3 vc c, .row 27 vo out, .row 3 vd d]) ∧ Bf l x y i k 0 c) x_.1 x_.2.1 x_.2.2) (fun x_ => (fun (k : Int) (vc : Value) (c : List Int) => ((l.length : Int) + 1 - k).toNat) x_.1 x_.2.1 x_.2.2) (0, (.slice (some ⟨b24, 0, none⟩) 1 1), [i]) ?_ (fun x_ a w31 hI => ?_)
      · (try dsimp only); exact ⟨env_sub _ hA, ⟨_, H⟩, bf_start h0 (by omega)⟩
      obtain ⟨k, vc, c⟩ := x_
      obtain ⟨hA, ⟨S, H⟩, hb⟩ := hI
      try dsimp only at hb
      replace H : Fr _ _ _ [.row 3 vc c, .row 27 vo out, .row 3 vd d] := H
      have hcl := bf_len hb; have hk0 := hb.k0; have hkn := hb.kn
      refine go_seq fun K32 hK32 => ?_
      refine go_seq fun K33 hK33 => ?_
      refine q_reg [(28, .int .i64 (c.length : Int))] [(0, vl), (1, .int .i64 x), (2, .int .i64 y), (7, vo), (8, vd), (9, .int .i64 i), (10, vc), (11, .int .i64 k), (29, .bool (decide (k < (c.length : Int))))] ((True) ∧ (True) ∧ (LenOk vc (c.length : Int)) ∧ (True) ∧ True) hA H ⟨trivial, trivial, by exact len_ok (H.out 0 rfl), trivial, trivial⟩ fun a w34 hA H hG => ?_
      refine hK33 _ _ ?_
      refine go_cond hA (.tmp 29) (decide (k < (c.length : Int))) (fun hb35 => ?_) (fun hb35 => ?_)
      · have hhb35 := of_decide_eq_true hb35
        refine go_skip ?_
        refine hK32 _ _ ?_
        refine go_seq fun K36 hK36 => ?_
        refine go_block 3 ?_
        refine go_seq fun K37 hK37 => ?_
        refine q_reg [] [(0, vl), (1, .int .i64 x), (2, .int .i64 y), (7, vo), (8, vd), (9, .int .i64 i), (10, vc), (11, .int .i64 k), (12, .int .i64 0)] ((True) ∧ True) hA H ⟨trivial, trivial⟩ fun a w38 hA H hG => ?_
        refine hK37 _ _ ?_
        refine go_block 4 ?_
        refine go_loop_ (Int × Value × List Int) (fun x_ a W => (fun (j : Int) (vc2 : Value) (c2 : List Int) => EnvOk 83 a (keepEnv [(0, vl), (1, .int .i64 x), (2, .int .i64 y), (7, vo), (8, vd), (9, .int .i64 i), (10, vc2), (11, .int .i64 k), (12, .int .i64 j)]) ∧ (∃ S, Fr o W S [.row 3 vc2 c2, .row 27 vo out, .row 3 vd d]) ∧ 0 ≤ j ∧ j ≤ (l.length : Int) ∧ c.length ≤ c2.length ∧ Bf l x y i k j c2) x_.1 x_.2.1 x_.2.2) (fun x_ => (fun (j : Int) (vc2 : Value) (c2 : List Int) => ((l.length : Int) - j).toNat) x_.1 x_.2.1 x_.2.2) (0, vc, c) ?_ (fun x_ a w40 hI => ?_)
        · (try dsimp only); exact ⟨env_sub _ hA, ⟨_, H⟩, by omega, by omega, Nat.le_refl _, hb⟩
        obtain ⟨j, vc2, c2⟩ := x_
        obtain ⟨hA, ⟨S, H⟩, j0, j0b, j1, hb⟩ := hI
        try dsimp only at j0 j0b j1 hb
        replace H : Fr _ _ _ [.row 3 vc2 c2, .row 27 vo out, .row 3 vd d] := H
        have hcl2 := bf_len hb
        refine go_seq fun K41 hK41 => ?_
        refine go_seq fun K42 hK42 => ?_
        refine q_reg [(34, .int .i64 (l.length : Int))] [(0, vl), (1, .int .i64 x), (2, .int .i64 y), (7, vo), (8, vd), (9, .int .i64 i), (10, vc2), (11, .int .i64 k), (12, .int .i64 j), (35, .bool (decide (j < (l.length : Int))))] ((True) ∧ (True) ∧ (LenOk vl (l.length : Int)) ∧ (True) ∧ True) hA H ⟨trivial, trivial, by exact len_ok (H.arg hL), trivial, trivial⟩ fun a w43 hA H hG => ?_
        refine hK42 _ _ ?_
        refine go_cond hA (.tmp 35) (decide (j < (l.length : Int))) (fun hb44 => ?_) (fun hb44 => ?_)
        · have hhb44 := of_decide_eq_true hb44
          refine go_skip ?_
          refine hK41 _ _ ?_
          refine go_seq fun K45 hK45 => ?_
          refine go_block 5 ?_
          refine go_seq fun K46 hK46 => ?_
          have hck := hb.cn _ (getD_mem (l := c2) (i := k.toNat) (d := 0) (by omega))
          refine q_draw [(40, .bool (decide (j ∈ c2))), (47, .int .i64 (c2.getD k.toNat 0)), (49, .agg #[.int .i64 ((l.getD (c2.getD k.toNat 0).toNat (0, (0, 0))).1), .int .i64 (((l.getD (c2.getD k.toNat 0).toNat (0, (0, 0))).2).1), .int .i64 (((l.getD (c2.getD k.toNat 0).toNat (0, (0, 0))).2).2)]), (53, .agg #[.int .i64 ((l.getD j.toNat (0, (0, 0))).1), .int .i64 (((l.getD j.toNat (0, (0, 0))).2).1), .int .i64 (((l.getD j.toNat (0, (0, 0))).2).2)]), (56, .bool (decide (touchK (l.getD (c2.getD k.toNat 0).toNat (0, (0, 0))) (l.getD j.toNat (0, (0, 0))) x y)))] [(0, vl), (1, .int .i64 x), (2, .int .i64 y), (7, vo), (8, vd), (9, .int .i64 i), (10, vc2), (11, .int .i64 k), (12, .int .i64 j), (57, .bool ((!(decide (j ∈ c2))) && (decide (touchK (l.getD (c2.getD k.toNat 0).toNat (0, (0, 0))) (l.getD j.toNat (0, (0, 0))) x y))))] ((True) ∧ (True) ∧ (Callable Try.prog 24 ∧ CallOk Try.prog (On w43) 24 [vc2, .int .i64 j].toArray (.bool (decide (j ∈ c2)))) ∧ (True) ∧ (True) ∧ ((!(decide (j ∈ c2))) = true → True) ∧ ((!(decide (j ∈ c2))) = true → True) ∧ ((!(decide (j ∈ c2))) = true → True) ∧ ((!(decide (j ∈ c2))) = true → (Try.prog.info? 3).isSome = true ∧ IdxOk vc2 k) ∧ ((!(decide (j ∈ c2))) = true → CellOk (On w43) (hdB vc2) (hdO vc2 + k.toNat * 1) (.int .i64 (c2.getD k.toNat 0))) ∧ ((!(decide (j ∈ c2))) = true → (Try.prog.info? 113).isSome = true ∧ IdxOk vl (c2.getD k.toNat 0)) ∧ ((!(decide (j ∈ c2))) = true → (Try.prog.info? 113).isSome = true ∧ RowOk (On w43) (hdB vl) (hdO vl + (c2.getD k.toNat 0).toNat * 3) (Try.prog.cellsOf 113) #[.int .i64 ((l.getD (c2.getD k.toNat 0).toNat (0, (0, 0))).1), .int .i64 (((l.getD (c2.getD k.toNat 0).toNat (0, (0, 0))).2).1), .int .i64 (((l.getD (c2.getD k.toNat 0).toNat (0, (0, 0))).2).2)]) ∧ ((!(decide (j ∈ c2))) = true → True) ∧ ((!(decide (j ∈ c2))) = true → True) ∧ ((!(decide (j ∈ c2))) = true → (Try.prog.info? 113).isSome = true ∧ IdxOk vl j) ∧ ((!(decide (j ∈ c2))) = true → (Try.prog.info? 113).isSome = true ∧ RowOk (On w43) (hdB vl) (hdO vl + j.toNat * 3) (Try.prog.cellsOf 113) #[.int .i64 ((l.getD j.toNat (0, (0, 0))).1), .int .i64 (((l.getD j.toNat (0, (0, 0))).2).1), .int .i64 (((l.getD j.toNat (0, (0, 0))).2).2)]) ∧ ((!(decide (j ∈ c2))) = true → True) ∧ ((!(decide (j ∈ c2))) = true → True) ∧ ((!(decide (j ∈ c2))) = true → Callable Try.prog 89 ∧ CallOk Try.prog (On w43) 89 [.agg #[.int .i64 ((l.getD (c2.getD k.toNat 0).toNat (0, (0, 0))).1), .int .i64 (((l.getD (c2.getD k.toNat 0).toNat (0, (0, 0))).2).1), .int .i64 (((l.getD (c2.getD k.toNat 0).toNat (0, (0, 0))).2).2)], .agg #[.int .i64 ((l.getD j.toNat (0, (0, 0))).1), .int .i64 (((l.getD j.toNat (0, (0, 0))).2).1), .int .i64 (((l.getD j.toNat (0, (0, 0))).2).2)], .int .i64 x, .int .i64 y].toArray (.bool (decide (touchK (l.getD (c2.getD k.toNat 0).toNat (0, (0, 0))) (l.getD j.toNat (0, (0, 0))) x y)))) ∧ (True) ∧ True) hA H ⟨trivial, trivial, ⟨callable_of, callOk_of fun w hw => by exact in_any vc2 c2 j w (((H.on hw).out 0 rfl))⟩, trivial, trivial, fun _ => trivial, fun _ => trivial, fun _ => trivial, fun hg0 => by replace hg0 := of_decide_eq_false (nT hg0); exact ⟨by kernel_rfl, by exact idx_ok (H.out 0 rfl) (by omega) (by omega)⟩, fun hg0 => by replace hg0 := of_decide_eq_false (nT hg0); exact by exact cell_flat (i := k) (H.out 0 rfl) (by omega) (by omega) 0 0, fun hg0 => by replace hg0 := of_decide_eq_false (nT hg0); exact ⟨by kernel_rfl, by exact idx_ok (H.arg hL) (by omega) (by omega)⟩, fun hg0 => by replace hg0 := of_decide_eq_false (nT hg0); exact ⟨by kernel_rfl, by exact row_flat (i := (c2.getD k.toNat 0)) (H.arg hL) (by omega) (by omega) (0, (0, 0))⟩, fun _ => trivial, fun _ => trivial, fun hg0 => by replace hg0 := of_decide_eq_false (nT hg0); exact ⟨by kernel_rfl, by exact idx_ok (H.arg hL) (by omega) (by omega)⟩, fun hg0 => by replace hg0 := of_decide_eq_false (nT hg0); exact ⟨by kernel_rfl, by exact row_flat (i := j) (H.arg hL) (by omega) (by omega) (0, (0, 0))⟩, fun _ => trivial, fun _ => trivial, fun _ => ⟨callable_of, callOk_of fun w hw => by exact touch_any (l.getD (c2.getD k.toNat 0).toNat (0, (0, 0))) (l.getD j.toNat (0, (0, 0))) x y w⟩, trivial, trivial⟩ fun a w47 hA H hG => ?_
          refine hK46 _ _ ?_
          refine go_cond hA (.tmp 57) ((!(decide (j ∈ c2))) && (decide (touchK (l.getD (c2.getD k.toNat 0).toNat (0, (0, 0))) (l.getD j.toNat (0, (0, 0))) x y))) (fun hb48 => ?_) (fun hb48 => ?_)
          · have hhb48 := (⟨of_decide_eq_false (nT ((aT hb48).1)), of_decide_eq_true ((aT hb48).2)⟩ : _ ∧ _)
            refine region_list ?_
            refine q_list 0 2 [] [(0, vl), (1, .int .i64 x), (2, .int .i64 y), (7, vo), (8, vd), (9, .int .i64 i), (11, .int .i64 k), (12, .int .i64 j), (58, vc2), (59, .int .i64 j)] ((True) ∧ (True) ∧ True) hA H ⟨trivial, trivial, trivial⟩ fun a w49 hA H hG => ?_
            refine list_at 2 ?_; refine q_lit 2 60 27 1 #[(0, .tmp 59)] 3 [(0, .int .i64 j)] [.int .i64 j] [(0, vl), (1, .int .i64 x), (2, .int .i64 y), (7, vo), (8, vd), (9, .int .i64 i), (11, .int .i64 k), (12, .int .i64 j), (58, vc2)] hA H fun b50 a w51 H hA hG hge_b50 => ?_
            clear hge_b50
            refine list_at 3 ?_; refine q_push 3 61 (.tmp 58) (.tmp 60) 1 0 b50 1 1 vc2 c2 [j] [.int .i64 j] [(0, vl), (1, .int .i64 x), (2, .int .i64 y), (7, vo), (8, vd), (9, .int .i64 i), (11, .int .i64 k), (12, .int .i64 j)] hA H Try.E27 rfl rfl (by exact (RowRd.single (α := Int) rfl)) rfl (by simp only [List.length_cons, List.length_nil, List.length_append]; omega) (by decide) fun v52 a w53 H hA hG => ?_
            replace H : Fr _ _ _ [.row 3 v52 (c2 ++ [j]), .row 27 vo out, .row 3 vd d] := H.drop 0
            refine q_list 4 1 [] [(0, vl), (1, .int .i64 x), (2, .int .i64 y), (7, vo), (8, vd), (9, .int .i64 i), (10, v52), (11, .int .i64 k), (12, .int .i64 j)] ((True) ∧ True) hA H ⟨trivial, trivial⟩ fun a w54 hA H hG => ?_
            refine list_end ?_
            refine hK45 _ _ ?_
            refine q_reg [] [(0, vl), (1, .int .i64 x), (2, .int .i64 y), (7, vo), (8, vd), (9, .int .i64 i), (10, v52), (11, .int .i64 k), (12, .int .i64 (j + 1))] ((True) ∧ (InR .i64 (j + 1)) ∧ (True) ∧ True) hA H ⟨trivial, ⟨by omega, by omega⟩, trivial, trivial⟩ fun a w55 hA H hG => ?_
            refine ⟨(j + 1, v52, c2 ++ [j]), ⟨env_sub _ hA, ⟨_, H⟩, ?_⟩, ?_⟩
            · (try dsimp only); exact ⟨by omega, by omega, by (try simp only [List.length_append, List.length_cons, List.length_nil]); omega, bf_push hb (by omega) j0 (by omega) hhb48.1 hhb48.2⟩
            · (try dsimp only); omega
          · have hhb48 := (aF hb48).imp (fun h => of_decide_eq_true (nF h)) (fun h => of_decide_eq_false h)
            refine go_skip ?_
            refine hK45 _ _ ?_
            refine q_reg [] [(0, vl), (1, .int .i64 x), (2, .int .i64 y), (7, vo), (8, vd), (9, .int .i64 i), (10, vc2), (11, .int .i64 k), (12, .int .i64 (j + 1))] ((True) ∧ (InR .i64 (j + 1)) ∧ (True) ∧ True) hA H ⟨trivial, ⟨by omega, by omega⟩, trivial, trivial⟩ fun a w56 hA H hG => ?_
            refine ⟨(j + 1, vc2, c2), ⟨env_sub _ hA, ⟨_, H⟩, ?_⟩, ?_⟩
            · (try dsimp only); exact ⟨by omega, by omega, by (try simp only [List.length_append, List.length_cons, List.length_nil]); omega, bf_skip hb j0 hhb48⟩
            · (try dsimp only); omega
        · have hhb44 := of_decide_eq_false hb44
          refine go_exit 4 ?_
          refine hK36 _ _ ?_
          refine q_reg [] [(0, vl), (1, .int .i64 x), (2, .int .i64 y), (7, vo), (8, vd), (9, .int .i64 i), (10, vc2), (11, .int .i64 (k + 1))] ((True) ∧ (InR .i64 (k + 1)) ∧ (True) ∧ True) hA H ⟨trivial, ⟨by omega, by omega⟩, trivial, trivial⟩ fun a w57 hA H hG => ?_
          refine ⟨(k + 1, vc2, c2), ⟨env_sub _ hA, ⟨_, H⟩, ?_⟩, ?_⟩
          · (try dsimp only); exact bf_next hb (by omega) (by omega)
          · (try dsimp only); omega
      · have hhb35 := of_decide_eq_false hb35
        refine go_exit 2 ?_
        refine hK27 _ _ ?_
        refine go_seq fun K58 hK58 => ?_
        refine region_list ?_
        refine q_list 0 2 [] [(0, vl), (1, .int .i64 x), (2, .int .i64 y), (7, vo), (9, .int .i64 i), (10, vc), (62, vd), (63, vc)] ((True) ∧ (True) ∧ True) hA H ⟨trivial, trivial, trivial⟩ fun a w59 hA H hG => ?_
        refine list_at 2 ?_; refine q_pushS 2 64 (.tmp 62) (.tmp 63) 2 vd vc d c [(0, vl), (1, .int .i64 x), (2, .int .i64 y), (7, vo), (9, .int .i64 i), (10, vc)] hA H Try.E27 rfl (H.out 0 rfl) (by (try simp only [List.length_cons, List.length_nil, List.length_append]); omega) (by decide) (fun _ _ h => h) fun v60 a w61 H hA hG => ?_
        replace H : Fr _ _ _ [.row 3 vc c, .row 27 vo out, .row 3 v60 (d ++ c)] := H
        refine q_list 3 1 [] [(0, vl), (1, .int .i64 x), (2, .int .i64 y), (7, vo), (8, v60), (9, .int .i64 i), (10, vc)] ((True) ∧ True) hA H ⟨trivial, trivial⟩ fun a w62 hA H hG => ?_
        refine list_end ?_
        refine hK58 _ _ ?_
        refine go_seq fun K63 hK63 => ?_
        refine q_reg [] [(0, vl), (1, .int .i64 x), (2, .int .i64 y), (7, vo), (8, v60), (9, .int .i64 i), (10, vc), (13, (.slice none 0 0))] ((True) ∧ True) hA H ⟨trivial, trivial⟩ fun a w64 hA H hG => ?_
        refine hK63 _ _ ?_
        refine go_seq fun K65 hK65 => ?_
        refine go_seq fun K66 hK66 => ?_
        refine q_reg [] [(0, vl), (1, .int .i64 x), (2, .int .i64 y), (7, vo), (8, v60), (9, .int .i64 i), (10, vc), (13, (.slice none 0 0)), (14, .int .i64 0)] ((True) ∧ True) hA H ⟨trivial, trivial⟩ fun a w67 hA H hG => ?_
        refine hK66 _ _ ?_
        refine go_block 6 ?_
        replace H := H.newRow (α := Int) 3
        refine go_loop_ (Int × Value × List Int) (fun x_ a W => (fun (q : Int) (vs : Value) (s : List Int) => EnvOk 83 a (keepEnv [(0, vl), (1, .int .i64 x), (2, .int .i64 y), (7, vo), (8, v60), (9, .int .i64 i), (10, vc), (13, vs), (14, .int .i64 q)]) ∧ (∃ S, Fr o W S [.row 3 vs s, .row 3 vc c, .row 27 vo out, .row 3 v60 (d ++ c)]) ∧ 0 ≤ q ∧ q ≤ (l.length : Int) ∧ (s.length : Int) ≤ q ∧ s = (upto q).filter fun x => decide (x ∈ c)) x_.1 x_.2.1 x_.2.2) (fun x_ => (fun (q : Int) (vs : Value) (s : List Int) => ((l.length : Int) - q).toNat) x_.1 x_.2.1 x_.2.2) (0, .slice none 0 0, []) ?_ (fun x_ a w69 hI => ?_)
        · (try dsimp only); exact ⟨env_sub _ hA, ⟨_, H⟩, by omega, by omega, by simp, rfl⟩
        obtain ⟨q, vs, s⟩ := x_
        obtain ⟨hA, ⟨S, H⟩, q0, q0b, q1, hs⟩ := hI
        try dsimp only at q0 q0b q1 hs
        replace H : Fr _ _ _ [.row 3 vs s, .row 3 vc c, .row 27 vo out, .row 3 v60 (d ++ c)] := H
        refine go_seq fun K70 hK70 => ?_
        refine go_seq fun K71 hK71 => ?_
        refine q_reg [(67, .int .i64 (l.length : Int))] [(0, vl), (1, .int .i64 x), (2, .int .i64 y), (7, vo), (8, v60), (9, .int .i64 i), (10, vc), (13, vs), (14, .int .i64 q), (68, .bool (decide (q < (l.length : Int))))] ((True) ∧ (True) ∧ (LenOk vl (l.length : Int)) ∧ (True) ∧ True) hA H ⟨trivial, trivial, by exact len_ok (H.arg hL), trivial, trivial⟩ fun a w72 hA H hG => ?_
        refine hK71 _ _ ?_
        refine go_cond hA (.tmp 68) (decide (q < (l.length : Int))) (fun hb73 => ?_) (fun hb73 => ?_)
        · have hhb73 := of_decide_eq_true hb73
          refine go_skip ?_
          refine hK70 _ _ ?_
          refine go_seq fun K74 hK74 => ?_
          refine go_block 7 ?_
          refine go_seq fun K75 hK75 => ?_
          refine q_reg [(73, .bool (decide (q ∈ c)))] [(0, vl), (1, .int .i64 x), (2, .int .i64 y), (7, vo), (8, v60), (9, .int .i64 i), (10, vc), (13, vs), (14, .int .i64 q), (73, .bool (decide (q ∈ c)))] ((True) ∧ (True) ∧ (Callable Try.prog 24 ∧ CallOk Try.prog (On w72) 24 [vc, .int .i64 q].toArray (.bool (decide (q ∈ c)))) ∧ True) hA H ⟨trivial, trivial, ⟨callable_of, callOk_of fun w hw => by exact in_any vc c q w (((H.on hw).out 1 rfl))⟩, trivial⟩ fun a w76 hA H hG => ?_
          refine hK75 _ _ ?_
          refine go_cond hA (.tmp 73) (decide (q ∈ c)) (fun hb77 => ?_) (fun hb77 => ?_)
          · have hhb77 := of_decide_eq_true hb77
            refine region_list ?_
            refine q_list 0 2 [] [(0, vl), (1, .int .i64 x), (2, .int .i64 y), (7, vo), (8, v60), (9, .int .i64 i), (10, vc), (14, .int .i64 q), (74, vs), (75, .int .i64 q)] ((True) ∧ (True) ∧ True) hA H ⟨trivial, trivial, trivial⟩ fun a w78 hA H hG => ?_
            refine list_at 2 ?_; refine q_lit 2 76 27 1 #[(0, .tmp 75)] 3 [(0, .int .i64 q)] [.int .i64 q] [(0, vl), (1, .int .i64 x), (2, .int .i64 y), (7, vo), (8, v60), (9, .int .i64 i), (10, vc), (14, .int .i64 q), (74, vs)] hA H fun b79 a w80 H hA hG hge_b79 => ?_
            clear hge_b79
            refine list_at 3 ?_; refine q_push 3 77 (.tmp 74) (.tmp 76) 1 0 b79 1 1 vs s [q] [.int .i64 q] [(0, vl), (1, .int .i64 x), (2, .int .i64 y), (7, vo), (8, v60), (9, .int .i64 i), (10, vc), (14, .int .i64 q)] hA H Try.E27 rfl rfl (by exact (RowRd.single (α := Int) rfl)) rfl (by simp only [List.length_cons, List.length_nil, List.length_append]; omega) (by decide) fun v81 a w82 H hA hG => ?_
            replace H : Fr _ _ _ [.row 3 v81 (s ++ [q]), .row 3 vc c, .row 27 vo out, .row 3 v60 (d ++ c)] := H.drop 0
            refine q_list 4 1 [] [(0, vl), (1, .int .i64 x), (2, .int .i64 y), (7, vo), (8, v60), (9, .int .i64 i), (10, vc), (13, v81), (14, .int .i64 q)] ((True) ∧ True) hA H ⟨trivial, trivial⟩ fun a w83 hA H hG => ?_
            refine list_end ?_
            refine hK74 _ _ ?_
            refine q_reg [] [(0, vl), (1, .int .i64 x), (2, .int .i64 y), (7, vo), (8, v60), (9, .int .i64 i), (10, vc), (13, v81), (14, .int .i64 (q + 1))] ((True) ∧ (InR .i64 (q + 1)) ∧ (True) ∧ True) hA H ⟨trivial, ⟨by omega, by omega⟩, trivial, trivial⟩ fun a w84 hA H hG => ?_
            refine ⟨(q + 1, v81, s ++ [q]), ⟨env_sub _ hA, ⟨_, H⟩, ?_⟩, ?_⟩
            · (try dsimp only); exact ⟨by omega, by omega, by (try simp only [List.length_append, List.length_cons, List.length_nil]); omega, by rw [upfil_snoc q0, ← hs]; first | rw [if_pos hhb77] | rw [if_neg hhb77, List.append_nil]⟩
            · (try dsimp only); omega
          · have hhb77 := of_decide_eq_false hb77
            refine go_skip ?_
            refine hK74 _ _ ?_
            refine q_reg [] [(0, vl), (1, .int .i64 x), (2, .int .i64 y), (7, vo), (8, v60), (9, .int .i64 i), (10, vc), (13, vs), (14, .int .i64 (q + 1))] ((True) ∧ (InR .i64 (q + 1)) ∧ (True) ∧ True) hA H ⟨trivial, ⟨by omega, by omega⟩, trivial, trivial⟩ fun a w85 hA H hG => ?_
            refine ⟨(q + 1, vs, s), ⟨env_sub _ hA, ⟨_, H⟩, ?_⟩, ?_⟩
            · (try dsimp only); exact ⟨by omega, by omega, by (try simp only [List.length_append, List.length_cons, List.length_nil]); omega, by rw [upfil_snoc q0, ← hs]; first | rw [if_pos hhb77] | rw [if_neg hhb77, List.append_nil]⟩
            · (try dsimp only); omega
        · have hhb73 := of_decide_eq_false hb73
          refine go_exit 6 ?_
          refine hK65 _ _ ?_
          obtain ⟨S, _, H⟩ := H.freeze 0 rfl
          replace H : Fr _ _ _ [.ro vs s, .row 3 vc c, .row 27 vo out, .row 3 v60 (d ++ c)] := H
          obtain ⟨sfp, sfn, sfc, rfl⟩ := rd_form (H.getS 0 rfl)
          replace H : Fr _ _ _ [.ro (.slice sfp sfn sfc) s, .row 3 vc c, .row 27 vo out, .row 3 v60 (d ++ c)] := H
          refine region_list ?_
          refine q_list 0 2 [] [(0, vl), (1, .int .i64 x), (2, .int .i64 y), (8, v60), (9, .int .i64 i), (78, vo), (79, (.slice sfp sfn sfc))] ((True) ∧ (True) ∧ True) hA H ⟨trivial, trivial, trivial⟩ fun a w87 hA H hG => ?_
          refine list_at 2 ?_; refine q_lit 2 80 67 1 #[(0, .tmp 79)] 27 [(0, (.slice sfp sfn sfc))] [(.slice sfp sfn sfc)] [(0, vl), (1, .int .i64 x), (2, .int .i64 y), (8, v60), (9, .int .i64 i), (78, vo)] hA H fun b88 a w89 H hA hG hge_b88 => ?_
          clear hge_b88
          refine list_at 3 ?_; refine q_push 3 81 (.tmp 78) (.tmp 80) 3 0 b88 1 1 vo out [s] [(.slice sfp sfn sfc)] [(0, vl), (1, .int .i64 x), (2, .int .i64 y), (8, v60), (9, .int .i64 i)] hA H Try.E67 rfl rfl (by exact (RowRd.single (α := List (Int)) ⟨_, rfl, rd_slice (H.getS 1 rfl)⟩)) rfl (by simp only [List.length_cons, List.length_nil, List.length_append]; omega) (by decide) fun v90 a w91 H hA hG => ?_
          replace H : Fr _ _ _ [.ro (.slice sfp sfn sfc) s, .row 3 vc c, .row 27 v90 (out ++ [s]), .row 3 v60 (d ++ c)] := H.drop 0
          refine q_list 4 1 [] [(0, vl), (1, .int .i64 x), (2, .int .i64 y), (7, v90), (8, v60), (9, .int .i64 i)] ((True) ∧ True) hA H ⟨trivial, trivial⟩ fun a w92 hA H hG => ?_
          refine list_end ?_
          refine hK16 _ _ ?_
          refine q_reg [] [(0, vl), (1, .int .i64 x), (2, .int .i64 y), (7, v90), (8, v60), (9, .int .i64 (i + 1))] ((True) ∧ (InR .i64 (i + 1)) ∧ (True) ∧ True) hA H ⟨trivial, ⟨by omega, by omega⟩, trivial, trivial⟩ fun a w93 hA H hG => ?_
          replace H := Fr.order [.ro (.slice sfp sfn sfc) s, .row 3 vc c, .row 27 v90 (out ++ [s]), .row 3 v60 (d ++ c)] [] H [2, 3, 0, 1] (by show List.Perm _ (List.range 4); decide)
          replace H : Fr _ _ _ [.row 27 v90 (out ++ [s]), .row 3 v60 (d ++ c), .ro (.slice sfp sfn sfc) s, .row 3 vc c] := H
          replace H := H.drop 3
          replace H := H.drop 2
          refine ⟨(i + 1, v90, out ++ [s], v60, d ++ c), ⟨env_sub _ hA, ⟨_, H⟩, ?_⟩, ?_⟩
          · (try dsimp only); exact ⟨by omega, by omega, by (try simp only [List.length_append, List.length_cons, List.length_nil]); omega, by rw [hs, show q = (l.length : Int) by omega]; exact dn_add hd h0 (by omega) hni hb (by omega)⟩
          · (try dsimp only); omega
  · have hhb15 := of_decide_eq_false hb15
    refine go_exit 0 ?_
    refine hK7 _ _ ?_
    refine go_seq fun K94 hK94 => ?_
    refine q_reg [] [(6, vo)] ((True) ∧ (True) ∧ True) hA H ⟨trivial, trivial, trivial⟩ fun a w95 hA H hG => ?_
    refine hK94 _ _ ?_
    refine go_ret_ ?_
    refine ret_one 6 vo hA ?_
    have ho := (H.give 0 rfl)
    rw [show i = (l.length : Int) by omega] at hd; rw [dn_end hd] at ho; exact ⟨_, rfl, ho, H.below⟩

end Go.Proofs.Ytahonnlgkmimlaa
