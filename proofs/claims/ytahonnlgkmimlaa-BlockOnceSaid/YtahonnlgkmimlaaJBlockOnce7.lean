/-
  Texts joined by program: WalkB6, WalkB7, WalkB8, WalkB9, BlockM, WalkB13, WalkB14.
-/
import Derived.Test.YtahonnlgkmimlaaProg
import Derived.Test.YtahonnlgkmimlaaJBlockOnce6
set_option linter.unusedSimpArgs false
set_option linter.unusedVariables false
namespace Go.Proofs.Ytahonnlgkmimlaa
open Go.RowKit

set_option maxRecDepth 100000 in
set_option maxHeartbeats 4000000 in
theorem blocks_any (n : Int) (ve : Value) (E : List (Int × Int)) (vv vl : Value) (V L : List Int) (o : Orig) (hn : -9223372036854775808 ≤ n ∧ n ≤ 9223372036854775807) (hE : Rd (· < o.w.heap.size) o.w ve E) (hV : Rd (· < o.w.heap.size) o.w vv V) (hL : Rd (· < o.w.heap.size) o.w vl L) :
  Calls Try.prog 47 [.agg #[.int .i64 n, ve], .agg #[vv, vl]].toArray o.w (Giv o (fun S v w' => ∃ p, v = .tuple #[p, .int .i64 (partE n E V L)] ∧ Rd S w' p (blocksE n E V L))) := by
  refine enter Try.f47 41 Try.func47 fun a hA => ?_
  replace hA := env_sub [(0, .agg #[.int .i64 n, ve]), (1, .agg #[vv, vl])] hA
  have H := Fr.start o
  refine go_seq fun K1 hK1 => ?_
  refine region_list ?_
  refine list_at 0 ?_; refine q_box 0 2 24 (.tmp 0) (.agg #[.int .i64 n, ve]) [.int .i64 n, ve] [(1, .agg #[vv, vl])] hA H fun b2 a w3 H hA hG hge_b2 => ?_
  clear hge_b2
  refine list_at 1 ?_; refine q_box 1 3 29 (.tmp 1) (.agg #[vv, vl]) [vv, vl] [(2, .pointer (some ⟨b2, 0, none⟩))] hA H fun b4 a w5 H hA hG hge_b4 => ?_
  clear hge_b4
  refine q_list 2 2 [] [(2, .pointer (some ⟨b2, 0, none⟩)), (3, .pointer (some ⟨b4, 0, none⟩))] ((True) ∧ (True) ∧ True) hA H ⟨trivial, trivial, trivial⟩ fun a w6 hA H hG => ?_
  refine list_end ?_
  refine hK1 _ _ ?_
  refine go_seq fun K7 hK7 => ?_
  refine go_seq fun K8 hK8 => ?_
  refine q_reg [(11, .agg #[.int .i64 n, ve]), (12, .agg #[vv, vl]), (13, .int .i64 (partE n E V L))] [(2, .pointer (some ⟨b2, 0, none⟩)), (3, .pointer (some ⟨b4, 0, none⟩)), (6, .int .i64 (partE n E V L))] (((Try.prog.info? 24).isSome = true ∧ RowOk (On w6) b2 (0) (Try.prog.cellsOf 24) #[.int .i64 n, ve]) ∧ ((Try.prog.info? 29).isSome = true ∧ RowOk (On w6) b4 (0) (Try.prog.cellsOf 29) #[vv, vl]) ∧ (Callable Try.prog 31 ∧ CallOk Try.prog (On w6) 31 [.agg #[.int .i64 n, ve], .agg #[vv, vl]].toArray (.int .i64 (partE n E V L))) ∧ (True) ∧ True) hA H ⟨⟨by kernel_rfl, by exact box_row H 1 rfl 0 2⟩, ⟨by kernel_rfl, by exact box_row H 0 rfl 0 2⟩, ⟨callable_of, callOk_of fun w hw => by exact rightPart_any n ve E vv vl V L w (by omega) (((H.on hw).arg hE)) (((H.on hw).arg hV)) (((H.on hw).arg hL))⟩, trivial, trivial⟩ fun a w9 hA H hG => ?_
  refine hK8 _ _ ?_
  refine go_seq fun K10 hK10 => ?_
  refine q_reg [] [(2, .pointer (some ⟨b2, 0, none⟩)), (3, .pointer (some ⟨b4, 0, none⟩)), (6, .int .i64 (partE n E V L)), (15, .bool (!decide (partE n E V L = 0)))] ((True) ∧ (True) ∧ True) hA H ⟨trivial, trivial, trivial⟩ fun a w11 hA H hG => ?_
  refine hK10 _ _ ?_
  refine go_cond hA (.tmp 15) (!decide (partE n E V L = 0)) (fun hb12 => ?_) (fun hb12 => ?_)
  · have hhb12 := of_decide_eq_false (nT hb12)
    refine go_seq fun K13 hK13 => ?_
    refine q_reg [] [(4, (.slice none 0 0)), (5, .int .i64 (partE n E V L))] ((True) ∧ (True) ∧ (True) ∧ True) hA H ⟨trivial, trivial, trivial, trivial⟩ fun a w14 hA H hG => ?_
    refine hK13 _ _ ?_
    refine go_ret_ ?_
    refine ret_two 4 5 (.slice none 0 0) (.int .i64 (partE n E V L)) hA ?_
    exact ⟨_, rfl, ⟨_, rfl, by unfold blocksE; rw [if_pos hhb12]; exact rd_nil⟩, H.below⟩
  · have hhb12 := of_decide_eq_true (nF hb12)
    refine go_skip ?_
    refine hK7 _ _ ?_
    refine go_seq fun K15 hK15 => ?_
    have hpt : partE n E V L = 0 := by omega
    have hr9 := rightE_0 (part_iff.1 hpt).1
    refine region_list ?_
    refine q_list 0 2 [(17, .agg #[.int .i64 n, ve]), (18, .agg #[vv, vl])] [(2, .pointer (some ⟨b2, 0, none⟩)), (17, .agg #[.int .i64 n, ve]), (18, .agg #[vv, vl])] (((Try.prog.info? 24).isSome = true ∧ RowOk (On w11) b2 (0) (Try.prog.cellsOf 24) #[.int .i64 n, ve]) ∧ ((Try.prog.info? 29).isSome = true ∧ RowOk (On w11) b4 (0) (Try.prog.cellsOf 29) #[vv, vl]) ∧ True) hA H ⟨⟨by kernel_rfl, by exact box_row H 1 rfl 0 2⟩, ⟨by kernel_rfl, by exact box_row H 0 rfl 0 2⟩, trivial⟩ fun a w16 hA H hG => ?_
    obtain ⟨s', hroots, hbd, hrest, hmet⟩ := find_ex hpt
    refine list_at 2 ?_; refine q_any 2 19 80 #[.tmp 17, .tmp 18] #[24, 29] [.agg #[.int .i64 n, ve], .agg #[vv, vl]] (fun u9 w9 => ∃ fb mb lb pb vd DL S ev ins, u9 = .pointer (some ⟨fb, 0, none⟩) ∧ Fr o w9 S (finR n ve vd DL fb mb lb pb s' ev ins [.box b4 29 [vv, vl], .box b2 24 [.int .i64 n, ve]]) ∧ insOf ins = s'.ins) [(2, .pointer (some ⟨b2, 0, none⟩))] hA ((find_any n ve E vv vl V L o _ s' [.box b4 29 [vv, vl], .box b2 24 [.int .i64 n, ve]] _ hpt hE hV hL H hroots hbd).mono fun e9 w9 ⟨fb, mb, lb, pb, vd, DL, S, ev, ins, h9, h10⟩ => ⟨_, h9, fb, mb, lb, pb, vd, DL, S, ev, ins, rfl, h10⟩) fun v17 a w18 hR19 hA => ?_
    obtain ⟨fb, mb, lb, pb, vd, DL, S, ev, ins, rfl, H, hins⟩ := hR19
    replace H : Fr _ _ _ [.box fb 106 [.int .i64 n, ve, vd, (.slice (some ⟨mb, 0, none⟩) n.toNat n.toNat), (.slice (some ⟨lb, 0, none⟩) n.toNat n.toNat), .int .i64 s'.cnt, ev, (.map (some pb))], .box mb 3 (arrV n fun j => .int .i64 (s'.met j)), .box lb 3 (arrV n fun j => .int .i64 (s'.low j)), .row 3 ev s'.stk, mapR Try.prog 3 pb ins, .ro vd DL, .box b4 29 [vv, vl], .box b2 24 [.int .i64 n, ve]] := H
    refine q_list 3 4 [(22, (.map (some pb)))] [(2, .pointer (some ⟨b2, 0, none⟩)), (7, (.map (some pb)))] ((True) ∧ (0 < Try.prog.cellsOf 104) ∧ (CellOk (On w18) fb (0 + 7) ((.map (some pb)))) ∧ (True) ∧ True) hA H ⟨trivial, by decide +kernel, by exact box_cell H 0 rfl 7, trivial, trivial⟩ fun a w20 hA H hG => ?_
    refine list_end ?_
    refine hK15 _ _ ?_
    refine go_seq fun K21 hK21 => ?_
    have hil : ins.length ≤ 1000000000 := by have := hbd.ins; rw [← hins, List.length_map] at this; exact this
    refine q_reg [] [(2, .pointer (some ⟨b2, 0, none⟩)), (7, (.map (some pb))), (8, (.slice none 0 0))] ((True) ∧ True) hA H ⟨trivial, trivial⟩ fun a w22 hA H hG => ?_
    refine hK21 _ _ ?_
    refine go_seq fun K23 hK23 => ?_
    refine go_seq fun K24 hK24 => ?_
    refine region_list ?_
    refine q_list 0 1 [] [(2, .pointer (some ⟨b2, 0, none⟩)), (7, (.map (some pb))), (8, (.slice none 0 0)), (23, (.map (some pb)))] ((True) ∧ True) hA H ⟨trivial, trivial⟩ fun a w25 hA H hG => ?_
    refine list_at 1 ?_; refine q_any 1 24 82 #[.tmp 23] #[104] [(.map (some pb))] (fun u9 w9 => ∃ kb, u9 = .func (.func 104) #[] #[.pointer (some ⟨kb, 0, none⟩)] ∧ Fr o w9 S (.box kb 104 [.map (some pb)] :: [.box fb 106 [.int .i64 n, ve, vd, (.slice (some ⟨mb, 0, none⟩) n.toNat n.toNat), (.slice (some ⟨lb, 0, none⟩) n.toNat n.toNat), .int .i64 s'.cnt, ev, (.map (some pb))], .box mb 3 (arrV n fun j => .int .i64 (s'.met j)), .box lb 3 (arrV n fun j => .int .i64 (s'.low j)), .row 3 ev s'.stk, mapR Try.prog 3 pb ins, .ro vd DL, .box b4 29 [vv, vl], .box b2 24 [.int .i64 n, ve]]) ∧ Below w25.heap.size w25 w9) [(2, .pointer (some ⟨b2, 0, none⟩)), (7, (.map (some pb))), (8, (.slice none 0 0))] hA ((keys_box _).mono fun e9 w9 h9 => ⟨_, h9.1, _, rfl, h9.2 ▸ H.newBox _ _, h9.2 ▸ below_new _ _⟩) fun v26 a w27 hR28 hA => ?_
    obtain ⟨kb29, rfl, H, hG⟩ := hR28
    replace H : Fr _ _ _ [.box kb29 104 [.map (some pb)], .box fb 106 [.int .i64 n, ve, vd, (.slice (some ⟨mb, 0, none⟩) n.toNat n.toNat), (.slice (some ⟨lb, 0, none⟩) n.toNat n.toNat), .int .i64 s'.cnt, ev, (.map (some pb))], .box mb 3 (arrV n fun j => .int .i64 (s'.met j)), .box lb 3 (arrV n fun j => .int .i64 (s'.low j)), .row 3 ev s'.stk, mapR Try.prog 3 pb ins, .ro vd DL, .box b4 29 [vv, vl], .box b2 24 [.int .i64 n, ve]] := H
    refine list_at 2 ?_; refine q_any 2 25 81 #[.tmp 24] #[111] [.func (.func 104) #[] #[.pointer (some ⟨kb29, 0, none⟩)]] _ [(2, .pointer (some ⟨b2, 0, none⟩)), (7, (.map (some pb))), (8, (.slice none 0 0))] hA (sorted_row H 5 0 rfl rfl hil) fun v30 a w31 hR32 hA => ?_
    obtain ⟨⟨K, hK, hKm, H⟩, hG⟩ := hR32
    replace H : Fr _ _ _ [.row 3 v30 K, .box kb29 104 [.map (some pb)], .box fb 106 [.int .i64 n, ve, vd, (.slice (some ⟨mb, 0, none⟩) n.toNat n.toNat), (.slice (some ⟨lb, 0, none⟩) n.toNat n.toNat), .int .i64 s'.cnt, ev, (.map (some pb))], .box mb 3 (arrV n fun j => .int .i64 (s'.met j)), .box lb 3 (arrV n fun j => .int .i64 (s'.low j)), .row 3 ev s'.stk, mapR Try.prog 3 pb ins, .ro vd DL, .box b4 29 [vv, vl], .box b2 24 [.int .i64 n, ve]] := H
    refine q_list 3 2 [(26, .int .i64 (K.length : Int))] [(2, .pointer (some ⟨b2, 0, none⟩)), (7, (.map (some pb))), (8, (.slice none 0 0)), (25, v30), (26, .int .i64 (K.length : Int)), (27, .int .i64 0)] ((LenOk v30 (K.length : Int)) ∧ (True) ∧ True) hA H ⟨by exact len_ok (H.out 0 rfl), trivial, trivial⟩ fun a w33 hA H hG => ?_
    refine list_end ?_
    refine hK24 _ _ ?_
    refine go_block 0 ?_
    replace H := H.newRow (α := List Int × List Int) 29
    refine go_loop_ (Int × Value × List (List Int × List Int)) (fun x_ a W => (fun (i : Int) (vr : Value) (l : List (List Int × List Int)) => EnvOk 41 a (keepEnv [(2, .pointer (some ⟨b2, 0, none⟩)), (7, (.map (some pb))), (8, vr), (25, v30), (26, .int .i64 (K.length : Int)), (27, .int .i64 i)]) ∧ (∃ S, Fr o W S [.row 29 vr l, .row 3 v30 K, .box kb29 104 [.map (some pb)], .box fb 106 [.int .i64 n, ve, vd, (.slice (some ⟨mb, 0, none⟩) n.toNat n.toNat), (.slice (some ⟨lb, 0, none⟩) n.toNat n.toNat), .int .i64 s'.cnt, ev, (.map (some pb))], .box mb 3 (arrV n fun j => .int .i64 (s'.met j)), .box lb 3 (arrV n fun j => .int .i64 (s'.low j)), .row 3 ev s'.stk, mapR Try.prog 3 pb ins, .ro vd DL, .box b4 29 [vv, vl], .box b2 24 [.int .i64 n, ve]]) ∧ 0 ≤ i ∧ i ≤ (K.length : Int) ∧ (l.length : Int) ≤ i ∧ l = (K.take i.toNat).map (fun k => (Lib.compact (sortL (endsL E (valAt ins k))), valAt ins k))) x_.1 x_.2.1 x_.2.2) (fun x_ => (fun (i : Int) (vr : Value) (l : List (List Int × List Int)) => ((K.length : Int) - i).toNat) x_.1 x_.2.1 x_.2.2) (0, .slice none 0 0, []) ?_ (fun x_ a w35 hI => ?_)
    · (try dsimp only); exact ⟨env_sub _ hA, ⟨_, H⟩, by omega, by omega, by simp, by simp⟩
    obtain ⟨i, vr, l⟩ := x_
    obtain ⟨hA, ⟨S, H⟩, h0, h0b, h1, hi⟩ := hI
    try dsimp only at h0 h0b h1 hi
    refine go_seq fun K36 hK36 => ?_
    have hKl := keys_len hK hKm
    refine q_reg [] [(2, .pointer (some ⟨b2, 0, none⟩)), (7, (.map (some pb))), (8, vr), (25, v30), (26, .int .i64 (K.length : Int)), (27, .int .i64 i), (28, .bool (decide (i < (K.length : Int))))] ((True) ∧ True) hA H ⟨trivial, trivial⟩ fun a w37 hA H hG => ?_
    refine hK36 _ _ ?_
    refine go_seq fun K38 hK38 => ?_
    refine go_cond hA (.tmp 28) (decide (i < (K.length : Int))) (fun hb39 => ?_) (fun hb39 => ?_)
    · have hhb39 := of_decide_eq_true hb39
      refine go_skip ?_
      refine hK38 _ _ ?_
      refine go_seq fun K40 hK40 => ?_
      refine go_block 1 ?_
      refine go_seq fun K41 hK41 => ?_
      refine q_reg [(30, .int .i64 (K.getD i.toNat 0))] [(2, .pointer (some ⟨b2, 0, none⟩)), (7, (.map (some pb))), (8, vr), (10, .int .i64 (K.getD i.toNat 0)), (25, v30), (26, .int .i64 (K.length : Int)), (27, .int .i64 i)] (((Try.prog.info? 3).isSome = true ∧ IdxOk v30 i) ∧ (CellOk (On w37) (hdB v30) (hdO v30 + i.toNat * 1) (.int .i64 (K.getD i.toNat 0))) ∧ (True) ∧ True) hA H ⟨⟨by kernel_rfl, by exact idx_ok (H.out 1 rfl) (by omega) (by omega)⟩, by exact cell_flat (i := i) (H.out 1 rfl) (by omega) (by omega) 0 0, trivial, trivial⟩ fun a w42 hA H hG => ?_
      refine hK41 _ _ ?_
      obtain ⟨lv, hlv⟩ := (hKm (K.getD i.toNat 0)).1 (mem_getD.2 ⟨i.toNat, by omega, rfl⟩)
      obtain ⟨⟨u, rv⟩, hla⟩ := lastAt_some hlv
      have hmem := lastAt_mem hla
      have hinm : ((K.getD i.toNat 0), rv) ∈ s'.ins := by rw [← hins]; exact List.mem_map.2 ⟨_, hmem, rfl⟩
      have hval : valAt ins (K.getD i.toNat 0) = rv := by unfold valAt; rw [hla]
      obtain ⟨hc1, hc2, hc3⟩ := ins_class hpt hrest hmet hinm
      have hxs : risesP rv (E.length : Int) := by have h9 := (part_iff.1 hpt).2.2.1; rw [show rv = _ from hc2]; exact rises_sub ((rises_iff.1 h9).1.sublist List.filter_sublist) h9 fun x hx => (List.mem_filter.1 hx).1
      have hkw := (rises_iff.1 (part_iff.1 hpt).2.2.1).2 _ hc1
      obtain ⟨hlk, hlr⟩ := map_look (t := 104) H 7 rfl hla (show wfI _ from ⟨by omega, by omega⟩) Try.underlying104 Try.underlying3 (z := .slice none 0 0) (fun w => by kernel_rfl)
      replace H := (H.ro hlr).sink 1 11
      replace H : Fr _ _ _ [.row 29 vr l, .row 3 v30 K, .box kb29 104 [.map (some pb)], .box fb 106 [.int .i64 n, ve, vd, (.slice (some ⟨mb, 0, none⟩) n.toNat n.toNat), (.slice (some ⟨lb, 0, none⟩) n.toNat n.toNat), .int .i64 s'.cnt, ev, (.map (some pb))], .box mb 3 (arrV n fun j => .int .i64 (s'.met j)), .box lb 3 (arrV n fun j => .int .i64 (s'.low j)), .row 3 ev s'.stk, mapR Try.prog 3 pb ins, .ro vd DL, .box b4 29 [vv, vl], .box b2 24 [.int .i64 n, ve], .ro u rv] := H
      refine region_list ?_
      refine q_list 0 5 [(32, .agg #[.int .i64 n, ve]), (35, u)] [(2, .pointer (some ⟨b2, 0, none⟩)), (7, (.map (some pb))), (25, v30), (26, .int .i64 (K.length : Int)), (27, .int .i64 i), (31, vr), (32, .agg #[.int .i64 n, ve]), (35, u)] ((True) ∧ ((Try.prog.info? 24).isSome = true ∧ RowOk (On w42) b2 (0) (Try.prog.cellsOf 24) #[.int .i64 n, ve]) ∧ (True) ∧ (True) ∧ (∀ w', On w42 w' → (Instr.lookup 104 (.map (some pb)) (.int .i64 (K.getD i.toNat 0)) false).run Try.prog w' = .ok u w') ∧ True) hA H ⟨trivial, ⟨by kernel_rfl, by exact box_row H 10 rfl 0 2⟩, trivial, trivial, by exact hlk, trivial⟩ fun a w43 hA H hG => ?_
      refine list_at 5 ?_; refine q_call 5 36 83 #[.tmp 32, .tmp 35] #[24, 27] [.agg #[.int .i64 n, ve], u] (fun S v w' => Rd S w' v ((Lib.compact (sortL (endsL E rv)), rv))) [(2, .pointer (some ⟨b2, 0, none⟩)), (7, (.map (some pb))), (25, v30), (26, .int .i64 (K.length : Int)), (27, .int .i64 i), (31, vr)] hA H (by exact bspan_any n ve E u rv H.at (by omega) ((H.arg hE)) ((H.get 11 rfl)) hxs (by omega)) fun v44 a w45 S hR46 H hA hG => ?_
      obtain ⟨v44a, v44b, rfl, hR46a, hR46b⟩ := two_rd hR46
      replace H := H.ro hR46a; replace H := H.ro hR46b
      replace H : Fr _ _ _ [.ro v44b rv, .ro v44a (Lib.compact (sortL (endsL E rv))), .row 29 vr l, .row 3 v30 K, .box kb29 104 [.map (some pb)], .box fb 106 [.int .i64 n, ve, vd, (.slice (some ⟨mb, 0, none⟩) n.toNat n.toNat), (.slice (some ⟨lb, 0, none⟩) n.toNat n.toNat), .int .i64 s'.cnt, ev, (.map (some pb))], .box mb 3 (arrV n fun j => .int .i64 (s'.met j)), .box lb 3 (arrV n fun j => .int .i64 (s'.low j)), .row 3 ev s'.stk, mapR Try.prog 3 pb ins, .ro vd DL, .box b4 29 [vv, vl], .box b2 24 [.int .i64 n, ve], .ro u rv] := H
      refine list_at 6 ?_; refine q_lit 6 37 56 1 #[(0, .tmp 36)] 29 [(0, .agg #[v44a, v44b])] [v44a, v44b] [(2, .pointer (some ⟨b2, 0, none⟩)), (7, (.map (some pb))), (25, v30), (26, .int .i64 (K.length : Int)), (27, .int .i64 i), (31, vr)] hA H fun b49 a w50 H hA hG hge_b49 => ?_
      clear hge_b49
      refine list_at 7 ?_; refine q_push 7 38 (.tmp 31) (.tmp 37) 3 0 b49 1 1 vr l [(Lib.compact (sortL (endsL E rv)), rv)] [v44a, v44b] [(2, .pointer (some ⟨b2, 0, none⟩)), (7, (.map (some pb))), (25, v30), (26, .int .i64 (K.length : Int)), (27, .int .i64 i)] hA H Try.E56 rfl rfl (by exact (RowRd.single (α := (List (Int)) × List (Int)) ⟨[_], _, rfl, ⟨_, rfl, rd_slice (H.getS 2 rfl)⟩, ⟨_, rfl, rd_slice (H.getS 1 rfl)⟩⟩)) rfl (by simp only [List.length_cons, List.length_nil, List.length_append]; omega) (by decide) fun v51 a w52 H hA hG => ?_
      replace H : Fr _ _ _ [.ro v44b rv, .ro v44a (Lib.compact (sortL (endsL E rv))), .row 29 v51 (l ++ [(Lib.compact (sortL (endsL E rv)), rv)]), .row 3 v30 K, .box kb29 104 [.map (some pb)], .box fb 106 [.int .i64 n, ve, vd, (.slice (some ⟨mb, 0, none⟩) n.toNat n.toNat), (.slice (some ⟨lb, 0, none⟩) n.toNat n.toNat), .int .i64 s'.cnt, ev, (.map (some pb))], .box mb 3 (arrV n fun j => .int .i64 (s'.met j)), .box lb 3 (arrV n fun j => .int .i64 (s'.low j)), .row 3 ev s'.stk, mapR Try.prog 3 pb ins, .ro vd DL, .box b4 29 [vv, vl], .box b2 24 [.int .i64 n, ve], .ro u rv] := H.drop 0
      refine q_list 8 1 [] [(2, .pointer (some ⟨b2, 0, none⟩)), (7, (.map (some pb))), (8, v51), (25, v30), (26, .int .i64 (K.length : Int)), (27, .int .i64 i)] ((True) ∧ True) hA H ⟨trivial, trivial⟩ fun a w53 hA H hG => ?_
      refine list_end ?_
      refine hK40 _ _ ?_
      refine q_reg [] [(2, .pointer (some ⟨b2, 0, none⟩)), (7, (.map (some pb))), (8, v51), (25, v30), (26, .int .i64 (K.length : Int)), (27, .int .i64 (i + 1))] ((InR .i64 (i + 1)) ∧ (True) ∧ True) hA H ⟨⟨by omega, by omega⟩, trivial, trivial⟩ fun a w54 hA H hG => ?_
      replace H := H.drop 13
      replace H := H.drop 1
      replace H := H.drop 0
      refine ⟨(i + 1, v51, l ++ [(Lib.compact (sortL (endsL E rv)), rv)]), ⟨env_sub _ hA, ⟨_, H⟩, ?_⟩, ?_⟩
      · (try dsimp only); exact ⟨by omega, by omega, by (try simp only [List.length_append, List.length_cons, List.length_nil]); omega, by rw [hi, take_snoc h0 (by omega), List.map_append]; simp only [List.map_cons, List.map_nil, hval]⟩
      · (try dsimp only); omega
    · have hhb39 := of_decide_eq_false hb39
      refine go_exit 0 ?_
      refine hK23 _ _ ?_
      refine go_seq fun K55 hK55 => ?_
      refine q_reg [] [(4, vr), (5, .int .i64 0)] ((True) ∧ (True) ∧ (True) ∧ True) hA H ⟨trivial, trivial, trivial, trivial⟩ fun a w56 hA H hG => ?_
      refine hK55 _ _ ?_
      refine go_ret_ ?_
      refine ret_two 4 5 vr (.int .i64 0) hA ?_
      have ho := (H.give 0 rfl)
      rw [List.take_of_length_le (by omega)] at hi; have hbe := blocks_val hpt hrest hmet hins hK hKm; rw [hi, hbe] at ho
      exact ⟨_, rfl, ⟨_, by rw [hpt], by unfold blocksE; rw [if_neg (by omega)]; exact ho⟩, H.below⟩

end Go.Proofs.Ytahonnlgkmimlaa

set_option linter.unusedSimpArgs false
set_option linter.unusedVariables false
namespace Go.Proofs.Ytahonnlgkmimlaa
open Go.RowKit

set_option maxRecDepth 100000 in
set_option maxHeartbeats 4000000 in
theorem around_any (n : Int) (ve : Value) (E : List (Int × Int)) (vv vl : Value) (V L : List Int) (x : Int) (o : Orig) (hn : -9223372036854775808 ≤ n ∧ n ≤ 9223372036854775807) (hE : Rd (· < o.w.heap.size) o.w ve E) (hV : Rd (· < o.w.heap.size) o.w vv V) (hL : Rd (· < o.w.heap.size) o.w vl L) :
  Calls Try.prog 49 [.agg #[.int .i64 n, ve], .agg #[vv, vl], .int .i64 x].toArray o.w (Giv o (fun S v w' => Rd S w' v (aroundE n E V L x))) := by
  refine enter Try.f49 36 Try.func49 fun a hA => ?_
  replace hA := env_sub [(0, .agg #[.int .i64 n, ve]), (1, .agg #[vv, vl]), (2, .int .i64 x)] hA
  have H := Fr.start o
  refine go_seq fun K1 hK1 => ?_
  refine region_list ?_
  refine list_at 0 ?_; refine q_box 0 3 24 (.tmp 0) (.agg #[.int .i64 n, ve]) [.int .i64 n, ve] [(1, .agg #[vv, vl]), (2, .int .i64 x)] hA H fun b2 a w3 H hA hG hge_b2 => ?_
  clear hge_b2
  refine list_at 1 ?_; refine q_box 1 4 29 (.tmp 1) (.agg #[vv, vl]) [vv, vl] [(2, .int .i64 x), (3, .pointer (some ⟨b2, 0, none⟩))] hA H fun b4 a w5 H hA hG hge_b4 => ?_
  clear hge_b4
  refine q_list 2 1 [] [(2, .int .i64 x), (3, .pointer (some ⟨b2, 0, none⟩)), (4, .pointer (some ⟨b4, 0, none⟩))] ((True) ∧ True) hA H ⟨trivial, trivial⟩ fun a w6 hA H hG => ?_
  refine list_end ?_
  refine hK1 _ _ ?_
  refine go_seq fun K7 hK7 => ?_
  refine region_list ?_
  refine q_list 0 2 [(13, .agg #[.int .i64 n, ve]), (14, .agg #[vv, vl])] [(2, .int .i64 x), (13, .agg #[.int .i64 n, ve]), (14, .agg #[vv, vl])] (((Try.prog.info? 24).isSome = true ∧ RowOk (On w6) b2 (0) (Try.prog.cellsOf 24) #[.int .i64 n, ve]) ∧ ((Try.prog.info? 29).isSome = true ∧ RowOk (On w6) b4 (0) (Try.prog.cellsOf 29) #[vv, vl]) ∧ True) hA H ⟨⟨by kernel_rfl, by exact box_row H 1 rfl 0 2⟩, ⟨by kernel_rfl, by exact box_row H 0 rfl 0 2⟩, trivial⟩ fun a w8 hA H hG => ?_
  refine list_at 2 ?_; refine q_call 2 15 47 #[.tmp 13, .tmp 14] #[24, 29] [.agg #[.int .i64 n, ve], .agg #[vv, vl]] (fun S v w' => ∃ p, v = .tuple #[p, .int .i64 (partE n E V L)] ∧ Rd S w' p ((blocksE n E V L))) [(2, .int .i64 x)] hA H (by exact blocks_any n ve E vv vl V L H.at (by omega) ((H.arg hE)) ((H.arg hV)) ((H.arg hL))) fun v9 a w10 S hR11 H hA hG => ?_
  obtain ⟨v9p, rfl, hR11p⟩ := hR11
  replace H := H.ro hR11p
  replace H : Fr _ _ _ [.ro v9p (blocksE n E V L), .box b4 29 [vv, vl], .box b2 24 [.int .i64 n, ve]] := H
  refine q_list 3 5 [] [(2, .int .i64 x), (7, v9p), (8, .int .i64 (partE n E V L))] ((True) ∧ (True) ∧ (True) ∧ (True) ∧ (True) ∧ True) hA H ⟨trivial, trivial, trivial, trivial, trivial, trivial⟩ fun a w13 hA H hG => ?_
  refine list_end ?_
  refine hK7 _ _ ?_
  refine go_seq fun K14 hK14 => ?_
  refine go_seq fun K15 hK15 => ?_
  refine q_reg [] [(2, .int .i64 x), (7, v9p), (19, .bool (!decide (partE n E V L = 0)))] ((True) ∧ (True) ∧ True) hA H ⟨trivial, trivial, trivial⟩ fun a w16 hA H hG => ?_
  refine hK15 _ _ ?_
  refine go_cond hA (.tmp 19) (!decide (partE n E V L = 0)) (fun hb17 => ?_) (fun hb17 => ?_)
  · have hhb17 := of_decide_eq_false (nT hb17)
    refine go_seq fun K18 hK18 => ?_
    refine q_reg [] [(6, (.slice none 0 0))] ((True) ∧ True) hA H ⟨trivial, trivial⟩ fun a w19 hA H hG => ?_
    refine hK18 _ _ ?_
    refine go_ret_ ?_
    refine ret_one 6 (.slice none 0 0) hA ?_
    exact ⟨_, rfl, by unfold aroundE; rw [if_pos hhb17]; exact rd_nil, H.below⟩
  · have hhb17 := of_decide_eq_true (nF hb17)
    refine go_skip ?_
    refine hK14 _ _ ?_
    refine go_seq fun K20 hK20 => ?_
    have hpt : partE n E V L = 0 := by omega
    have hbe : blocksE n E V L = blocksL n E V L := by unfold blocksE; rw [if_neg (by omega)]
    have hr9 := rightE_0 (part_iff.1 hpt).1
    have hbl9 := blocks_len n E V L
    have hl9 := rises_len (part_iff.1 hpt).2.2.1 (by omega)
    have hv9 := rises_len (part_iff.1 hpt).2.1 (by omega)
    simp only [hbe] at H
    refine q_reg [] [(2, .int .i64 x), (7, v9p), (9, (.slice none 0 0))] ((True) ∧ True) hA H ⟨trivial, trivial⟩ fun a w21 hA H hG => ?_
    refine hK20 _ _ ?_
    refine go_seq fun K22 hK22 => ?_
    refine go_seq fun K23 hK23 => ?_
    refine q_reg [(21, .int .i64 ((blocksL n E V L).length : Int))] [(2, .int .i64 x), (9, (.slice none 0 0)), (20, v9p), (21, .int .i64 ((blocksL n E V L).length : Int)), (22, .int .i64 0)] ((True) ∧ (LenOk v9p ((blocksL n E V L).length : Int)) ∧ (True) ∧ True) hA H ⟨trivial, by exact len_ok (H.get 0 rfl), trivial, trivial⟩ fun a w24 hA H hG => ?_
    refine hK23 _ _ ?_
    refine go_block 0 ?_
    replace H := H.newRow (α := List Int × List Int) 29
    refine go_loop_ (Int × Value × List (List Int × List Int)) (fun x_ a W => (fun (i : Int) (vr : Value) (l : List (List Int × List Int)) => EnvOk 36 a (keepEnv [(2, .int .i64 x), (9, vr), (20, v9p), (21, .int .i64 ((blocksL n E V L).length : Int)), (22, .int .i64 i)]) ∧ (∃ S, Fr o W S [.row 29 vr l, .ro v9p (blocksL n E V L), .box b4 29 [vv, vl], .box b2 24 [.int .i64 n, ve]]) ∧ 0 ≤ i ∧ i ≤ ((blocksL n E V L).length : Int) ∧ (l.length : Int) ≤ i ∧ l = hasIn ((blocksL n E V L).take i.toNat) x) x_.1 x_.2.1 x_.2.2) (fun x_ => (fun (i : Int) (vr : Value) (l : List (List Int × List Int)) => (((blocksL n E V L).length : Int) - i).toNat) x_.1 x_.2.1 x_.2.2) (0, .slice none 0 0, []) ?_ (fun x_ a w26 hI => ?_)
    · (try dsimp only); exact ⟨env_sub _ hA, ⟨_, H⟩, by omega, by omega, by simp, by simp [hasIn]⟩
    obtain ⟨i, vr, l⟩ := x_
    obtain ⟨hA, ⟨S, H⟩, h0, h0b, h1, hi⟩ := hI
    try dsimp only at h0 h0b h1 hi
    refine go_seq fun K27 hK27 => ?_
    refine q_reg [] [(2, .int .i64 x), (9, vr), (20, v9p), (21, .int .i64 ((blocksL n E V L).length : Int)), (22, .int .i64 i), (23, .bool (decide (i < ((blocksL n E V L).length : Int))))] ((True) ∧ True) hA H ⟨trivial, trivial⟩ fun a w28 hA H hG => ?_
    refine hK27 _ _ ?_
    refine go_seq fun K29 hK29 => ?_
    refine go_cond hA (.tmp 23) (decide (i < ((blocksL n E V L).length : Int))) (fun hb30 => ?_) (fun hb30 => ?_)
    · have hhb30 := of_decide_eq_true hb30
      refine go_skip ?_
      refine hK29 _ _ ?_
      refine go_seq fun K31 hK31 => ?_
      refine go_block 1 ?_
      refine go_seq fun K32 hK32 => ?_
      have hbm := getD_mem (l := blocksL n E V L) (i := i.toNat) (d := ([], [])) (by omega)
      obtain ⟨q1, q2, q3, q4⟩ := block_rises hpt hbm
      have q5 := rises_len q1 (by omega); have q6 := rises_len q2 (by omega)
      refine region_list ?_
      obtain ⟨ea33, eb34, hea33c, hea33a, hea33b⟩ := cell_twoC (C := On w28) H.keepsS (H.getS 1 rfl) i
      replace H := (H.ro (hea33a (by omega) (by omega))).sink 1 4
      replace H := (H.ro (hea33b (by omega) (by omega))).sink 1 5
      replace H : Fr _ _ _ [.row 29 vr l, .ro v9p (blocksL n E V L), .box b4 29 [vv, vl], .box b2 24 [.int .i64 n, ve], .ro ea33 ((blocksL n E V L).getD i.toNat ([], [])).1, .ro eb34 ((blocksL n E V L).getD i.toNat ([], [])).2] := H
      refine q_list 0 2 [(25, .agg #[ea33, eb34])] [(2, .int .i64 x), (9, vr), (20, v9p), (21, .int .i64 ((blocksL n E V L).length : Int)), (22, .int .i64 i), (25, .agg #[ea33, eb34])] (((Try.prog.info? 29).isSome = true ∧ IdxOk v9p i) ∧ ((Try.prog.info? 29).isSome = true ∧ RowOk (On w28) (hdB v9p) (hdO v9p + i.toNat * 2) (Try.prog.cellsOf 29) #[ea33, eb34]) ∧ True) hA H ⟨⟨by kernel_rfl, by exact idx_ok (H.get 1 rfl) (by omega) (by omega)⟩, ⟨by kernel_rfl, by exact hea33c (by omega) (by omega)⟩, trivial⟩ fun a w35 hA H hG => ?_
      refine list_at 2 ?_; refine q_alloc 2 11 29 [(.slice none 0 0), (.slice none 0 0)] [(2, .int .i64 x), (9, vr), (20, v9p), (21, .int .i64 ((blocksL n E V L).length : Int)), (22, .int .i64 i), (25, .agg #[ea33, eb34])] hA H fun b36 a w37 H hA hG hge_b36 => ?_
      clear hge_b36
      refine list_at 3 ?_; refine q_store 3 29 (.tmp 11) (.tmp 25) 0 b36 (0) 29 [(.slice none 0 0), (.slice none 0 0)] [ea33, eb34] [ea33, eb34] (.agg #[ea33, eb34]) [(2, .int .i64 x), (9, vr), (11, .pointer (some ⟨b36, 0, none⟩)), (20, v9p), (21, .int .i64 ((blocksL n E V L).length : Int)), (22, .int .i64 i)] hA H rfl rfl (Nat.le_of_ble_eq_true (by kernel_rfl)) rfl (fun v hv => by simp only [List.mem_cons, List.not_mem_nil, or_false] at hv; rcases hv with rfl | rfl; exact (rd_one (H.get 5 rfl)); exact (rd_one (H.get 6 rfl))) fun a w38 H hA hG => ?_
      replace H : Fr _ _ _ [.box b36 29 [ea33, eb34], .row 29 vr l, .ro v9p (blocksL n E V L), .box b4 29 [vv, vl], .box b2 24 [.int .i64 n, ve], .ro ea33 ((blocksL n E V L).getD i.toNat ([], [])).1, .ro eb34 ((blocksL n E V L).getD i.toNat ([], [])).2] := H
      refine list_end ?_
      refine hK32 _ _ ?_
      refine go_seq fun K39 hK39 => ?_
      refine q_reg [(27, ea33), (29, .bool (hasB (((blocksL n E V L).getD i.toNat ([], [])).1) x))] [(2, .int .i64 x), (9, vr), (11, .pointer (some ⟨b36, 0, none⟩)), (20, v9p), (21, .int .i64 ((blocksL n E V L).length : Int)), (22, .int .i64 i), (29, .bool (hasB (((blocksL n E V L).getD i.toNat ([], [])).1) x))] ((0 < Try.prog.cellsOf 27) ∧ (CellOk (On w38) b36 (0 + 0) (ea33)) ∧ (True) ∧ (Callable Try.prog 39 ∧ CallOk Try.prog (On w38) 39 [ea33, .int .i64 x].toArray (.bool (hasB (((blocksL n E V L).getD i.toNat ([], [])).1) x))) ∧ True) hA H ⟨by decide +kernel, by exact box_cell H 0 rfl 0, trivial, ⟨callable_of, callOk_of fun w hw => by exact has_any ea33 (((blocksL n E V L).getD i.toNat ([], [])).1) x w (((H.on hw).get 5 rfl)) (by omega)⟩, trivial⟩ fun a w40 hA H hG => ?_
      refine hK39 _ _ ?_
      refine go_cond hA (.tmp 29) (hasB (((blocksL n E V L).getD i.toNat ([], [])).1) x) (fun hb41 => ?_) (fun hb41 => ?_)
      · have hhb41 := hb41
        refine region_list ?_
        refine q_list 0 2 [(31, .agg #[ea33, eb34])] [(2, .int .i64 x), (20, v9p), (21, .int .i64 ((blocksL n E V L).length : Int)), (22, .int .i64 i), (30, vr), (31, .agg #[ea33, eb34])] ((True) ∧ ((Try.prog.info? 29).isSome = true ∧ RowOk (On w40) b36 (0) (Try.prog.cellsOf 29) #[ea33, eb34]) ∧ True) hA H ⟨trivial, ⟨by kernel_rfl, by exact box_row H 0 rfl 0 2⟩, trivial⟩ fun a w42 hA H hG => ?_
        refine list_at 2 ?_; refine q_lit 2 32 56 1 #[(0, .tmp 31)] 29 [(0, .agg #[ea33, eb34])] [ea33, eb34] [(2, .int .i64 x), (20, v9p), (21, .int .i64 ((blocksL n E V L).length : Int)), (22, .int .i64 i), (30, vr)] hA H fun b43 a w44 H hA hG hge_b43 => ?_
        clear hge_b43
        refine list_at 3 ?_; refine q_push 3 33 (.tmp 30) (.tmp 32) 2 0 b43 1 1 vr l [(((blocksL n E V L).getD i.toNat ([], [])).1, ((blocksL n E V L).getD i.toNat ([], [])).2)] [ea33, eb34] [(2, .int .i64 x), (20, v9p), (21, .int .i64 ((blocksL n E V L).length : Int)), (22, .int .i64 i)] hA H Try.E56 rfl rfl (by exact (RowRd.single (α := (List (Int)) × List (Int)) ⟨[_], _, rfl, ⟨_, rfl, rd_slice (H.getS 6 rfl)⟩, ⟨_, rfl, rd_slice (H.getS 7 rfl)⟩⟩)) rfl (by simp only [List.length_cons, List.length_nil, List.length_append]; omega) (by decide) fun v45 a w46 H hA hG => ?_
        replace H : Fr _ _ _ [.box b36 29 [ea33, eb34], .row 29 v45 (l ++ [(((blocksL n E V L).getD i.toNat ([], [])).1, ((blocksL n E V L).getD i.toNat ([], [])).2)]), .ro v9p (blocksL n E V L), .box b4 29 [vv, vl], .box b2 24 [.int .i64 n, ve], .ro ea33 ((blocksL n E V L).getD i.toNat ([], [])).1, .ro eb34 ((blocksL n E V L).getD i.toNat ([], [])).2] := H.drop 0
        refine q_list 4 1 [] [(2, .int .i64 x), (9, v45), (20, v9p), (21, .int .i64 ((blocksL n E V L).length : Int)), (22, .int .i64 i)] ((True) ∧ True) hA H ⟨trivial, trivial⟩ fun a w47 hA H hG => ?_
        refine list_end ?_
        refine hK31 _ _ ?_
        refine q_reg [] [(2, .int .i64 x), (9, v45), (20, v9p), (21, .int .i64 ((blocksL n E V L).length : Int)), (22, .int .i64 (i + 1))] ((InR .i64 (i + 1)) ∧ (True) ∧ True) hA H ⟨⟨by omega, by omega⟩, trivial, trivial⟩ fun a w48 hA H hG => ?_
        replace H := H.drop 6
        replace H := H.drop 5
        replace H := H.drop 0
        refine ⟨(i + 1, v45, l ++ [(((blocksL n E V L).getD i.toNat ([], [])).1, ((blocksL n E V L).getD i.toNat ([], [])).2)]), ⟨env_sub _ hA, ⟨_, H⟩, ?_⟩, ?_⟩
        · (try dsimp only); exact ⟨by omega, by omega, by (try simp only [List.length_append, List.length_cons, List.length_nil]); omega, by rw [hi, hasIn_snoc h0 (by omega)]; rw [hasB_mem q1] at hhb41; rw [if_pos (of_decide_eq_true hhb41)]⟩
        · (try dsimp only); omega
      · have hhb41 := hb41
        refine go_skip ?_
        refine hK31 _ _ ?_
        refine q_reg [] [(2, .int .i64 x), (9, vr), (20, v9p), (21, .int .i64 ((blocksL n E V L).length : Int)), (22, .int .i64 (i + 1))] ((InR .i64 (i + 1)) ∧ (True) ∧ True) hA H ⟨⟨by omega, by omega⟩, trivial, trivial⟩ fun a w49 hA H hG => ?_
        replace H := H.drop 6
        replace H := H.drop 5
        replace H := H.drop 0
        refine ⟨(i + 1, vr, l), ⟨env_sub _ hA, ⟨_, H⟩, ?_⟩, ?_⟩
        · (try dsimp only); exact ⟨by omega, by omega, by (try simp only [List.length_append, List.length_cons, List.length_nil]); omega, by rw [hi, hasIn_snoc h0 (by omega)]; rw [hasB_mem q1] at hhb41; rw [if_neg (of_decide_eq_false hhb41), List.append_nil]⟩
        · (try dsimp only); omega
    · have hhb30 := of_decide_eq_false hb30
      refine go_exit 0 ?_
      refine hK22 _ _ ?_
      refine go_seq fun K50 hK50 => ?_
      refine q_reg [] [(6, vr)] ((True) ∧ (True) ∧ True) hA H ⟨trivial, trivial, trivial⟩ fun a w51 hA H hG => ?_
      refine hK50 _ _ ?_
      refine go_ret_ ?_
      refine ret_one 6 vr hA ?_
      have ho := (H.give 0 rfl)
      rw [List.take_of_length_le (by omega)] at hi; rw [hi] at ho; exact ⟨_, rfl, by unfold aroundE; rw [if_neg (by omega)]; exact ho, H.below⟩

end Go.Proofs.Ytahonnlgkmimlaa

set_option linter.unusedSimpArgs false
set_option linter.unusedVariables false
namespace Go.Proofs.Ytahonnlgkmimlaa
open Go.RowKit

set_option maxRecDepth 100000 in
set_option maxHeartbeats 4000000 in
theorem cuts_any (n : Int) (ve : Value) (E : List (Int × Int)) (vv vl : Value) (V L : List Int) (o : Orig) (hn : -9223372036854775808 ≤ n ∧ n ≤ 9223372036854775807) (hE : Rd (· < o.w.heap.size) o.w ve E) (hV : Rd (· < o.w.heap.size) o.w vv V) (hL : Rd (· < o.w.heap.size) o.w vl L) :
  Calls Try.prog 48 [.agg #[.int .i64 n, ve], .agg #[vv, vl]].toArray o.w (Giv o (fun S v w' => ∃ p, v = .tuple #[p, .int .i64 (partE n E V L)] ∧ Rd S w' p (cutsE n E V L))) := by
  refine enter Try.f48 64 Try.func48 fun a hA => ?_
  replace hA := env_sub [(0, .agg #[.int .i64 n, ve]), (1, .agg #[vv, vl])] hA
  have H := Fr.start o
  refine go_seq fun K1 hK1 => ?_
  refine region_list ?_
  refine list_at 0 ?_; refine q_box 0 2 24 (.tmp 0) (.agg #[.int .i64 n, ve]) [.int .i64 n, ve] [(1, .agg #[vv, vl])] hA H fun b2 a w3 H hA hG hge_b2 => ?_
  clear hge_b2
  refine list_at 1 ?_; refine q_box 1 3 29 (.tmp 1) (.agg #[vv, vl]) [vv, vl] [(2, .pointer (some ⟨b2, 0, none⟩))] hA H fun b4 a w5 H hA hG hge_b4 => ?_
  clear hge_b4
  refine q_list 2 2 [] [(2, .pointer (some ⟨b2, 0, none⟩)), (3, .pointer (some ⟨b4, 0, none⟩))] ((True) ∧ (True) ∧ True) hA H ⟨trivial, trivial, trivial⟩ fun a w6 hA H hG => ?_
  refine list_end ?_
  refine hK1 _ _ ?_
  refine go_seq fun K7 hK7 => ?_
  refine region_list ?_
  refine q_list 0 2 [(17, .agg #[.int .i64 n, ve]), (18, .agg #[vv, vl])] [(2, .pointer (some ⟨b2, 0, none⟩)), (17, .agg #[.int .i64 n, ve]), (18, .agg #[vv, vl])] (((Try.prog.info? 24).isSome = true ∧ RowOk (On w6) b2 (0) (Try.prog.cellsOf 24) #[.int .i64 n, ve]) ∧ ((Try.prog.info? 29).isSome = true ∧ RowOk (On w6) b4 (0) (Try.prog.cellsOf 29) #[vv, vl]) ∧ True) hA H ⟨⟨by kernel_rfl, by exact box_row H 1 rfl 0 2⟩, ⟨by kernel_rfl, by exact box_row H 0 rfl 0 2⟩, trivial⟩ fun a w8 hA H hG => ?_
  refine list_at 2 ?_; refine q_call 2 19 47 #[.tmp 17, .tmp 18] #[24, 29] [.agg #[.int .i64 n, ve], .agg #[vv, vl]] (fun S v w' => ∃ p, v = .tuple #[p, .int .i64 (partE n E V L)] ∧ Rd S w' p ((blocksE n E V L))) [(2, .pointer (some ⟨b2, 0, none⟩))] hA H (by exact blocks_any n ve E vv vl V L H.at (by omega) ((H.arg hE)) ((H.arg hV)) ((H.arg hL))) fun v9 a w10 S hR11 H hA hG => ?_
  obtain ⟨v9p, rfl, hR11p⟩ := hR11
  replace H := H.ro hR11p
  replace H : Fr _ _ _ [.ro v9p (blocksE n E V L), .box b4 29 [vv, vl], .box b2 24 [.int .i64 n, ve]] := H
  refine q_list 3 5 [] [(2, .pointer (some ⟨b2, 0, none⟩)), (6, v9p), (7, .int .i64 (partE n E V L))] ((True) ∧ (True) ∧ (True) ∧ (True) ∧ (True) ∧ True) hA H ⟨trivial, trivial, trivial, trivial, trivial, trivial⟩ fun a w13 hA H hG => ?_
  refine list_end ?_
  refine hK7 _ _ ?_
  refine go_seq fun K14 hK14 => ?_
  refine go_seq fun K15 hK15 => ?_
  refine q_reg [] [(2, .pointer (some ⟨b2, 0, none⟩)), (6, v9p), (7, .int .i64 (partE n E V L)), (23, .bool (!decide (partE n E V L = 0)))] ((True) ∧ (True) ∧ True) hA H ⟨trivial, trivial, trivial⟩ fun a w16 hA H hG => ?_
  refine hK15 _ _ ?_
  refine go_cond hA (.tmp 23) (!decide (partE n E V L = 0)) (fun hb17 => ?_) (fun hb17 => ?_)
  · have hhb17 := of_decide_eq_false (nT hb17)
    refine go_seq fun K18 hK18 => ?_
    refine q_reg [] [(4, (.slice none 0 0)), (5, .int .i64 (partE n E V L))] ((True) ∧ (True) ∧ (True) ∧ True) hA H ⟨trivial, trivial, trivial, trivial⟩ fun a w19 hA H hG => ?_
    refine hK18 _ _ ?_
    refine go_ret_ ?_
    refine ret_two 4 5 (.slice none 0 0) (.int .i64 (partE n E V L)) hA ?_
    exact ⟨_, rfl, ⟨_, rfl, by unfold cutsE; rw [if_pos hhb17]; exact rd_nil⟩, H.below⟩
  · have hhb17 := of_decide_eq_true (nF hb17)
    refine go_skip ?_
    refine hK14 _ _ ?_
    refine go_seq fun K20 hK20 => ?_
    have hpt : partE n E V L = 0 := by omega
    have hbe : blocksE n E V L = blocksL n E V L := by unfold blocksE; rw [if_neg (by omega)]
    have hr9 := rightE_0 (part_iff.1 hpt).1
    have hbl9 := blocks_len n E V L
    have hl9 := rises_len (part_iff.1 hpt).2.2.1 (by omega)
    have hv9 := rises_len (part_iff.1 hpt).2.1 (by omega)
    simp only [hbe] at H
    refine region_list ?_
    refine q_list 0 2 [(26, .int .i64 n)] [(6, v9p), (26, .int .i64 n)] ((0 < Try.prog.cellsOf 3) ∧ (CellOk (On w16) b2 (0 + 0) (.int .i64 n)) ∧ True) hA H ⟨by decide +kernel, by exact box_cell H 2 rfl 0, trivial⟩ fun a w21 hA H hG => ?_
    refine list_at 2 ?_; refine q_makeA 2 27 27 (.tmp 26) 3 n (.int .i64 0) [(6, v9p)] hA H Try.underlying27 (make_info (by kernel_rfl)) (by omega) (by omega) fun b22 a w23 H hA hG hge_b22 => ?_
    clear hge_b22
    replace H : Fr _ _ _ [.box b22 3 (arrV n fun j => .int .i64 (cnt0 j)), .ro v9p (blocksL n E V L), .box b4 29 [vv, vl], .box b2 24 [.int .i64 n, ve]] := H
    refine q_list 3 1 [] [(6, v9p), (8, (.slice (some ⟨b22, 0, none⟩) n.toNat n.toNat))] ((True) ∧ True) hA H ⟨trivial, trivial⟩ fun a w24 hA H hG => ?_
    refine list_end ?_
    refine hK20 _ _ ?_
    refine go_seq fun K25 hK25 => ?_
    refine go_seq fun K26 hK26 => ?_
    refine q_reg [(29, .int .i64 ((blocksL n E V L).length : Int))] [(8, (.slice (some ⟨b22, 0, none⟩) n.toNat n.toNat)), (28, v9p), (29, .int .i64 ((blocksL n E V L).length : Int)), (30, .int .i64 0)] ((True) ∧ (LenOk v9p ((blocksL n E V L).length : Int)) ∧ (True) ∧ True) hA H ⟨trivial, by exact len_ok (H.get 1 rfl), trivial, trivial⟩ fun a w27 hA H hG => ?_
    refine hK26 _ _ ?_
    refine go_block 0 ?_
    refine go_loop_ (Int × (Int → Int)) (fun x_ a W => (fun (i : Int) (c : (Int → Int)) => EnvOk 64 a (keepEnv [(8, (.slice (some ⟨b22, 0, none⟩) n.toNat n.toNat)), (28, v9p), (29, .int .i64 ((blocksL n E V L).length : Int)), (30, .int .i64 i)]) ∧ (∃ S, Fr o W S [.box b22 3 (arrV n fun j => .int .i64 (c j)), .ro v9p (blocksL n E V L), .box b4 29 [vv, vl], .box b2 24 [.int .i64 n, ve]]) ∧ 0 ≤ i ∧ i ≤ ((blocksL n E V L).length : Int) ∧ ∀ v, c v = cntI ((blocksL n E V L).take i.toNat) v) x_.1 x_.2) (fun x_ => (fun (i : Int) (c : (Int → Int)) => (((blocksL n E V L).length : Int) - i).toNat) x_.1 x_.2) (0, cnt0) ?_ (fun x_ a w29 hI => ?_)
    · (try dsimp only); exact ⟨env_sub _ hA, ⟨_, H⟩, by omega, by omega, fun v => by simp [cnt0, cntI, hasIn]⟩
    obtain ⟨i, c⟩ := x_
    obtain ⟨hA, ⟨S, H⟩, h0, h0b, hc⟩ := hI
    try dsimp only at h0 h0b hc
    refine go_seq fun K30 hK30 => ?_
    refine q_reg [] [(8, (.slice (some ⟨b22, 0, none⟩) n.toNat n.toNat)), (28, v9p), (29, .int .i64 ((blocksL n E V L).length : Int)), (30, .int .i64 i), (31, .bool (decide (i < ((blocksL n E V L).length : Int))))] ((True) ∧ True) hA H ⟨trivial, trivial⟩ fun a w31 hA H hG => ?_
    refine hK30 _ _ ?_
    refine go_seq fun K32 hK32 => ?_
    refine go_cond hA (.tmp 31) (decide (i < ((blocksL n E V L).length : Int))) (fun hb33 => ?_) (fun hb33 => ?_)
    · have hhb33 := of_decide_eq_true hb33
      refine go_skip ?_
      refine hK32 _ _ ?_
      refine go_seq fun K34 hK34 => ?_
      refine go_block 1 ?_
      refine go_seq fun K35 hK35 => ?_
      have hbm := getD_mem (l := blocksL n E V L) (i := i.toNat) (d := ([], [])) (by omega)
      obtain ⟨q1, q2, q3, q4⟩ := block_rises hpt hbm
      have q5 := rises_len q1 (by omega); have q6 := rises_len q2 (by omega)
      refine region_list ?_
      obtain ⟨ea36, eb37, hea36c, hea36a, hea36b⟩ := cell_twoC (C := On w31) H.keepsS (H.getS 1 rfl) i
      replace H := (H.ro (hea36a (by omega) (by omega))).sink 1 4
      replace H := (H.ro (hea36b (by omega) (by omega))).sink 1 5
      replace H : Fr _ _ _ [.box b22 3 (arrV n fun j => .int .i64 (c j)), .ro v9p (blocksL n E V L), .box b4 29 [vv, vl], .box b2 24 [.int .i64 n, ve], .ro ea36 ((blocksL n E V L).getD i.toNat ([], [])).1, .ro eb37 ((blocksL n E V L).getD i.toNat ([], [])).2] := H
      refine q_list 0 2 [(33, .agg #[ea36, eb37])] [(8, (.slice (some ⟨b22, 0, none⟩) n.toNat n.toNat)), (28, v9p), (29, .int .i64 ((blocksL n E V L).length : Int)), (30, .int .i64 i), (33, .agg #[ea36, eb37])] (((Try.prog.info? 29).isSome = true ∧ IdxOk v9p i) ∧ ((Try.prog.info? 29).isSome = true ∧ RowOk (On w31) (hdB v9p) (hdO v9p + i.toNat * 2) (Try.prog.cellsOf 29) #[ea36, eb37]) ∧ True) hA H ⟨⟨by kernel_rfl, by exact idx_ok (H.get 1 rfl) (by omega) (by omega)⟩, ⟨by kernel_rfl, by exact hea36c (by omega) (by omega)⟩, trivial⟩ fun a w38 hA H hG => ?_
      refine list_at 2 ?_; refine q_alloc 2 10 29 [(.slice none 0 0), (.slice none 0 0)] [(8, (.slice (some ⟨b22, 0, none⟩) n.toNat n.toNat)), (28, v9p), (29, .int .i64 ((blocksL n E V L).length : Int)), (30, .int .i64 i), (33, .agg #[ea36, eb37])] hA H fun b39 a w40 H hA hG hge_b39 => ?_
      clear hge_b39
      refine list_at 3 ?_; refine q_store 3 29 (.tmp 10) (.tmp 33) 0 b39 (0) 29 [(.slice none 0 0), (.slice none 0 0)] [ea36, eb37] [ea36, eb37] (.agg #[ea36, eb37]) [(8, (.slice (some ⟨b22, 0, none⟩) n.toNat n.toNat)), (10, .pointer (some ⟨b39, 0, none⟩)), (28, v9p), (29, .int .i64 ((blocksL n E V L).length : Int)), (30, .int .i64 i)] hA H rfl rfl (Nat.le_of_ble_eq_true (by kernel_rfl)) rfl (fun v hv => by simp only [List.mem_cons, List.not_mem_nil, or_false] at hv; rcases hv with rfl | rfl; exact (rd_one (H.get 5 rfl)); exact (rd_one (H.get 6 rfl))) fun a w41 H hA hG => ?_
      replace H : Fr _ _ _ [.box b39 29 [ea36, eb37], .box b22 3 (arrV n fun j => .int .i64 (c j)), .ro v9p (blocksL n E V L), .box b4 29 [vv, vl], .box b2 24 [.int .i64 n, ve], .ro ea36 ((blocksL n E V L).getD i.toNat ([], [])).1, .ro eb37 ((blocksL n E V L).getD i.toNat ([], [])).2] := H
      refine list_end ?_
      refine hK35 _ _ ?_
      refine go_seq fun K42 hK42 => ?_
      refine q_reg [(35, ea36), (36, .int .i64 ((((blocksL n E V L).getD i.toNat ([], [])).1).length : Int))] [(8, (.slice (some ⟨b22, 0, none⟩) n.toNat n.toNat)), (28, v9p), (29, .int .i64 ((blocksL n E V L).length : Int)), (30, .int .i64 i), (35, ea36), (36, .int .i64 ((((blocksL n E V L).getD i.toNat ([], [])).1).length : Int)), (37, .int .i64 0)] ((0 < Try.prog.cellsOf 27) ∧ (CellOk (On w41) b39 (0 + 0) (ea36)) ∧ (LenOk ea36 ((((blocksL n E V L).getD i.toNat ([], [])).1).length : Int)) ∧ (True) ∧ True) hA H ⟨by decide +kernel, by exact box_cell H 0 rfl 0, by exact len_ok (H.get 5 rfl), trivial, trivial⟩ fun a w43 hA H hG => ?_
      refine hK42 _ _ ?_
      refine go_block 2 ?_
      refine go_loop_ (Int × (Int → Int)) (fun x_ a W => (fun (k : Int) (d : (Int → Int)) => EnvOk 64 a (keepEnv [(8, (.slice (some ⟨b22, 0, none⟩) n.toNat n.toNat)), (28, v9p), (29, .int .i64 ((blocksL n E V L).length : Int)), (30, .int .i64 i), (35, ea36), (36, .int .i64 ((((blocksL n E V L).getD i.toNat ([], [])).1).length : Int)), (37, .int .i64 k)]) ∧ (∃ S, Fr o W S [.box b39 29 [ea36, eb37], .box b22 3 (arrV n fun j => .int .i64 (d j)), .ro v9p (blocksL n E V L), .box b4 29 [vv, vl], .box b2 24 [.int .i64 n, ve], .ro ea36 ((blocksL n E V L).getD i.toNat ([], [])).1, .ro eb37 ((blocksL n E V L).getD i.toNat ([], [])).2]) ∧ 0 ≤ k ∧ ∀ v, d v = cntI ((blocksL n E V L).take i.toNat) v + (if v ∈ ((blocksL n E V L).getD i.toNat ([], [])).1.take k.toNat then 1 else 0)) x_.1 x_.2) (fun x_ => (fun (k : Int) (d : (Int → Int)) => ((((blocksL n E V L).getD i.toNat ([], [])).1.length : Int) - k).toNat) x_.1 x_.2) (0, c) ?_ (fun x_ a w45 hI => ?_)
      · (try dsimp only); exact ⟨env_sub _ hA, ⟨_, H⟩, by omega, fun v => by rw [hc v]; simp⟩
      obtain ⟨k, d⟩ := x_
      obtain ⟨hA, ⟨S, H⟩, k0, hd⟩ := hI
      try dsimp only at k0 hd
      refine go_seq fun K46 hK46 => ?_
      refine q_reg [] [(8, (.slice (some ⟨b22, 0, none⟩) n.toNat n.toNat)), (28, v9p), (29, .int .i64 ((blocksL n E V L).length : Int)), (30, .int .i64 i), (35, ea36), (36, .int .i64 ((((blocksL n E V L).getD i.toNat ([], [])).1).length : Int)), (37, .int .i64 k), (38, .bool (decide (k < ((((blocksL n E V L).getD i.toNat ([], [])).1).length : Int))))] ((True) ∧ True) hA H ⟨trivial, trivial⟩ fun a w47 hA H hG => ?_
      refine hK46 _ _ ?_
      refine go_seq fun K48 hK48 => ?_
      refine go_cond hA (.tmp 38) (decide (k < ((((blocksL n E V L).getD i.toNat ([], [])).1).length : Int))) (fun hb49 => ?_) (fun hb49 => ?_)
      · have hhb49 := of_decide_eq_true hb49
        refine go_skip ?_
        refine hK48 _ _ ?_
        refine go_seq fun K50 hK50 => ?_
        refine go_block 3 ?_
        refine go_seq fun K51 hK51 => ?_
        have hx9 := (rises_iff.1 q1).2 _ (mem_getD.2 ⟨k.toNat, by omega, rfl⟩)
        refine q_reg [(40, .int .i64 ((((blocksL n E V L).getD i.toNat ([], [])).1).getD k.toNat 0))] [(8, (.slice (some ⟨b22, 0, none⟩) n.toNat n.toNat)), (12, .int .i64 ((((blocksL n E V L).getD i.toNat ([], [])).1).getD k.toNat 0)), (28, v9p), (29, .int .i64 ((blocksL n E V L).length : Int)), (30, .int .i64 i), (35, ea36), (36, .int .i64 ((((blocksL n E V L).getD i.toNat ([], [])).1).length : Int)), (37, .int .i64 k)] (((Try.prog.info? 3).isSome = true ∧ IdxOk ea36 k) ∧ (CellOk (On w47) (hdB ea36) (hdO ea36 + k.toNat * 1) (.int .i64 ((((blocksL n E V L).getD i.toNat ([], [])).1).getD k.toNat 0))) ∧ (True) ∧ True) hA H ⟨⟨by kernel_rfl, by exact idx_ok (H.get 5 rfl) (by omega) (by omega)⟩, by exact cell_flat (i := k) (H.get 5 rfl) (by omega) (by omega) 0 0, trivial, trivial⟩ fun a w52 hA H hG => ?_
        refine hK51 _ _ ?_
        have hd9 := hd (((blocksL n E V L).getD i.toNat ([], [])).1.getD k.toNat 0)
        have hd8 := cntI_le ((blocksL n E V L).take i.toNat) (((blocksL n E V L).getD i.toNat ([], [])).1.getD k.toNat 0)
        rw [List.length_take] at hd8
        have hd7 : (0 : Int) ≤ d (((blocksL n E V L).getD i.toNat ([], [])).1.getD k.toNat 0) ∧ d (((blocksL n E V L).getD i.toNat ([], [])).1.getD k.toNat 0) ≤ 1000000 := by rw [hd9]; split <;> omega
        refine region_list ?_
        refine q_list 0 6 [(44, .int .i64 (d ((((blocksL n E V L).getD i.toNat ([], [])).1).getD k.toNat 0)))] [(8, (.slice (some ⟨b22, 0, none⟩) n.toNat n.toNat)), (28, v9p), (29, .int .i64 ((blocksL n E V L).length : Int)), (30, .int .i64 i), (35, ea36), (36, .int .i64 ((((blocksL n E V L).getD i.toNat ([], [])).1).length : Int)), (37, .int .i64 k), (45, .int .i64 ((d ((((blocksL n E V L).getD i.toNat ([], [])).1).getD k.toNat 0)) + 1)), (46, .pointer (some ⟨b22, 0 + ((((blocksL n E V L).getD i.toNat ([], [])).1).getD k.toNat 0).toNat * 1, none⟩))] ((True) ∧ (True) ∧ ((Try.prog.info? 3).isSome = true ∧ IdxOk (.slice (some ⟨b22, 0, none⟩) n.toNat n.toNat) ((((blocksL n E V L).getD i.toNat ([], [])).1).getD k.toNat 0)) ∧ (CellOk (On w52) b22 (0 + ((((blocksL n E V L).getD i.toNat ([], [])).1).getD k.toNat 0).toNat * 1) (.int .i64 (d ((((blocksL n E V L).getD i.toNat ([], [])).1).getD k.toNat 0)))) ∧ (InR .i64 ((d ((((blocksL n E V L).getD i.toNat ([], [])).1).getD k.toNat 0)) + 1)) ∧ ((Try.prog.info? 3).isSome = true ∧ IdxOk (.slice (some ⟨b22, 0, none⟩) n.toNat n.toNat) ((((blocksL n E V L).getD i.toNat ([], [])).1).getD k.toNat 0)) ∧ True) hA H ⟨trivial, trivial, ⟨by kernel_rfl, arr_idx (by omega) (by omega)⟩, by exact arr_cell H 1 rfl (by omega) (by omega), ⟨by omega, by omega⟩, ⟨by kernel_rfl, arr_idx (by omega) (by omega)⟩, trivial⟩ fun a w53 hA H hG => ?_
        refine list_at 6 ?_; refine q_store 6 3 (.tmp 46) (.tmp 45) 1 b22 (0 + ((((blocksL n E V L).getD i.toNat ([], [])).1).getD k.toNat 0).toNat * 1) 3 ((arrV n fun j => .int .i64 (d j))) [.int .i64 ((d ((((blocksL n E V L).getD i.toNat ([], [])).1).getD k.toNat 0)) + 1)] ((arrV n fun j => .int .i64 ((Deep.upd d ((((blocksL n E V L).getD i.toNat ([], [])).1).getD k.toNat 0) ((d ((((blocksL n E V L).getD i.toNat ([], [])).1).getD k.toNat 0)) + 1)) j))) (.int .i64 ((d ((((blocksL n E V L).getD i.toNat ([], [])).1).getD k.toNat 0)) + 1)) [(8, (.slice (some ⟨b22, 0, none⟩) n.toNat n.toNat)), (28, v9p), (29, .int .i64 ((blocksL n E V L).length : Int)), (30, .int .i64 i), (35, ea36), (36, .int .i64 ((((blocksL n E V L).getD i.toNat ([], [])).1).length : Int)), (37, .int .i64 k)] hA H rfl rfl (arr_room (by omega) (by omega)) (arr_set (by omega) (by omega) (congrArg (Value.int .i64) (Deep.upd_same _ _ _)) (fun j hj => congrArg (Value.int .i64) (Deep.upd_ne _ _ hj))) (fun v hv => by simp only [List.mem_cons, List.not_mem_nil, or_false] at hv; rcases hv with rfl; exact rfl) fun a w54 H hA hG => ?_
        replace H : Fr _ _ _ [.box b39 29 [ea36, eb37], .box b22 3 (arrV n fun j => .int .i64 ((Deep.upd d ((((blocksL n E V L).getD i.toNat ([], [])).1).getD k.toNat 0) ((d ((((blocksL n E V L).getD i.toNat ([], [])).1).getD k.toNat 0)) + 1)) j)), .ro v9p (blocksL n E V L), .box b4 29 [vv, vl], .box b2 24 [.int .i64 n, ve], .ro ea36 ((blocksL n E V L).getD i.toNat ([], [])).1, .ro eb37 ((blocksL n E V L).getD i.toNat ([], [])).2] := H
        refine list_end ?_
        refine hK50 _ _ ?_
        refine q_reg [] [(8, (.slice (some ⟨b22, 0, none⟩) n.toNat n.toNat)), (28, v9p), (29, .int .i64 ((blocksL n E V L).length : Int)), (30, .int .i64 i), (35, ea36), (36, .int .i64 ((((blocksL n E V L).getD i.toNat ([], [])).1).length : Int)), (37, .int .i64 (k + 1))] ((InR .i64 (k + 1)) ∧ (True) ∧ True) hA H ⟨⟨by omega, by omega⟩, trivial, trivial⟩ fun a w55 hA H hG => ?_
        refine ⟨(k + 1, Deep.upd d ((((blocksL n E V L).getD i.toNat ([], [])).1).getD k.toNat 0) ((d ((((blocksL n E V L).getD i.toNat ([], [])).1).getD k.toNat 0)) + 1)), ⟨env_sub _ hA, ⟨_, H⟩, ?_⟩, ?_⟩
        · (try dsimp only); exact ⟨by omega, fun v => cnt_step k0 (by omega) (asc_nodup (rises_iff.1 q1).1) hd v⟩
        · (try dsimp only); omega
      · have hhb49 := of_decide_eq_false hb49
        refine go_exit 2 ?_
        refine hK34 _ _ ?_
        refine q_reg [] [(8, (.slice (some ⟨b22, 0, none⟩) n.toNat n.toNat)), (28, v9p), (29, .int .i64 ((blocksL n E V L).length : Int)), (30, .int .i64 (i + 1))] ((InR .i64 (i + 1)) ∧ (True) ∧ True) hA H ⟨⟨by omega, by omega⟩, trivial, trivial⟩ fun a w56 hA H hG => ?_
        replace H := H.drop 6
        replace H := H.drop 5
        replace H := H.drop 0
        refine ⟨(i + 1, d), ⟨env_sub _ hA, ⟨_, H⟩, ?_⟩, ?_⟩
        · (try dsimp only); exact ⟨by omega, by omega, fun v => by rw [hd v, show ((blocksL n E V L).getD i.toNat ([], [])).1.take k.toNat = ((blocksL n E V L).getD i.toNat ([], [])).1 from List.take_of_length_le (by omega), cntI_snoc h0 (by omega)]⟩
        · (try dsimp only); omega
    · have hhb33 := of_decide_eq_false hb33
      refine go_exit 0 ?_
      refine hK25 _ _ ?_
      refine go_seq fun K57 hK57 => ?_
      refine q_reg [] [(8, (.slice (some ⟨b22, 0, none⟩) n.toNat n.toNat)), (13, (.slice none 0 0))] ((True) ∧ True) hA H ⟨trivial, trivial⟩ fun a w58 hA H hG => ?_
      refine hK57 _ _ ?_
      refine go_seq fun K59 hK59 => ?_
      refine go_seq fun K60 hK60 => ?_
      refine q_reg [(50, .int .i64 n)] [(13, (.slice none 0 0)), (49, (.slice (some ⟨b22, 0, none⟩) n.toNat n.toNat)), (50, .int .i64 n), (51, .int .i64 0)] ((True) ∧ (LenOk (.slice (some ⟨b22, 0, none⟩) n.toNat n.toNat) n) ∧ (True) ∧ True) hA H ⟨trivial, arr_len_ok (by omega), trivial, trivial⟩ fun a w61 hA H hG => ?_
      refine hK60 _ _ ?_
      refine go_block 4 ?_
      replace H := H.newRow (α := Int) 3
      refine go_loop_ (Int × Value × List Int) (fun x_ a W => (fun (j : Int) (vr : Value) (l : List Int) => EnvOk 64 a (keepEnv [(13, vr), (49, (.slice (some ⟨b22, 0, none⟩) n.toNat n.toNat)), (50, .int .i64 n), (51, .int .i64 j)]) ∧ (∃ S, Fr o W S [.row 3 vr l, .box b22 3 (arrV n fun j => .int .i64 (c j)), .ro v9p (blocksL n E V L), .box b4 29 [vv, vl], .box b2 24 [.int .i64 n, ve]]) ∧ 0 ≤ j ∧ j ≤ n ∧ (l.length : Int) ≤ j ∧ l = (upto j).filter (fun v => decide (1 < cntI (blocksL n E V L) v))) x_.1 x_.2.1 x_.2.2) (fun x_ => (fun (j : Int) (vr : Value) (l : List Int) => (n - j).toNat) x_.1 x_.2.1 x_.2.2) (0, .slice none 0 0, []) ?_ (fun x_ a w63 hI => ?_)
      · (try dsimp only); exact ⟨env_sub _ hA, ⟨_, H⟩, by omega, by omega, by simp, rfl⟩
      obtain ⟨j, vr, l⟩ := x_
      obtain ⟨hA, ⟨S, H⟩, j0, j0b, j1, hj⟩ := hI
      try dsimp only at j0 j0b j1 hj
      refine go_seq fun K64 hK64 => ?_
      refine q_reg [] [(13, vr), (49, (.slice (some ⟨b22, 0, none⟩) n.toNat n.toNat)), (50, .int .i64 n), (51, .int .i64 j), (52, .bool (decide (j < n)))] ((True) ∧ True) hA H ⟨trivial, trivial⟩ fun a w65 hA H hG => ?_
      refine hK64 _ _ ?_
      refine go_seq fun K66 hK66 => ?_
      refine go_cond hA (.tmp 52) (decide (j < n)) (fun hb67 => ?_) (fun hb67 => ?_)
      · have hhb67 := of_decide_eq_true hb67
        refine go_skip ?_
        refine hK66 _ _ ?_
        refine go_seq fun K68 hK68 => ?_
        refine go_block 5 ?_
        refine go_seq fun K69 hK69 => ?_
        refine q_reg [(55, .int .i64 (c j))] [(13, vr), (14, .int .i64 j), (15, .int .i64 (c j)), (49, (.slice (some ⟨b22, 0, none⟩) n.toNat n.toNat)), (50, .int .i64 n), (51, .int .i64 j)] ((True) ∧ ((Try.prog.info? 3).isSome = true ∧ IdxOk (.slice (some ⟨b22, 0, none⟩) n.toNat n.toNat) j) ∧ (CellOk (On w65) b22 (0 + j.toNat * 1) (.int .i64 (c j))) ∧ (True) ∧ (True) ∧ True) hA H ⟨trivial, ⟨by kernel_rfl, arr_idx (by omega) (by omega)⟩, by exact arr_cell H 1 rfl (by omega) (by omega), trivial, trivial, trivial⟩ fun a w70 hA H hG => ?_
        refine hK69 _ _ ?_
        refine go_seq fun K71 hK71 => ?_
        refine q_reg [] [(13, vr), (14, .int .i64 j), (49, (.slice (some ⟨b22, 0, none⟩) n.toNat n.toNat)), (50, .int .i64 n), (51, .int .i64 j), (57, .bool (decide ((1 : Int) < c j)))] ((True) ∧ (True) ∧ True) hA H ⟨trivial, trivial, trivial⟩ fun a w72 hA H hG => ?_
        refine hK71 _ _ ?_
        refine go_cond hA (.tmp 57) (decide ((1 : Int) < c j)) (fun hb73 => ?_) (fun hb73 => ?_)
        · have hhb73 := of_decide_eq_true hb73
          refine region_list ?_
          refine q_list 0 2 [] [(49, (.slice (some ⟨b22, 0, none⟩) n.toNat n.toNat)), (50, .int .i64 n), (51, .int .i64 j), (58, vr), (59, .int .i64 j)] ((True) ∧ (True) ∧ True) hA H ⟨trivial, trivial, trivial⟩ fun a w74 hA H hG => ?_
          refine list_at 2 ?_; refine q_lit 2 60 27 1 #[(0, .tmp 59)] 3 [(0, .int .i64 j)] [.int .i64 j] [(49, (.slice (some ⟨b22, 0, none⟩) n.toNat n.toNat)), (50, .int .i64 n), (51, .int .i64 j), (58, vr)] hA H fun b75 a w76 H hA hG hge_b75 => ?_
          clear hge_b75
          refine list_at 3 ?_; refine q_push 3 61 (.tmp 58) (.tmp 60) 1 0 b75 1 1 vr l [j] [.int .i64 j] [(49, (.slice (some ⟨b22, 0, none⟩) n.toNat n.toNat)), (50, .int .i64 n), (51, .int .i64 j)] hA H Try.E27 rfl rfl (by exact (RowRd.single (α := Int) rfl)) rfl (by simp only [List.length_cons, List.length_nil, List.length_append]; omega) (by decide) fun v77 a w78 H hA hG => ?_
          replace H : Fr _ _ _ [.row 3 v77 (l ++ [j]), .box b22 3 (arrV n fun j => .int .i64 (c j)), .ro v9p (blocksL n E V L), .box b4 29 [vv, vl], .box b2 24 [.int .i64 n, ve]] := H.drop 0
          refine q_list 4 1 [] [(13, v77), (49, (.slice (some ⟨b22, 0, none⟩) n.toNat n.toNat)), (50, .int .i64 n), (51, .int .i64 j)] ((True) ∧ True) hA H ⟨trivial, trivial⟩ fun a w79 hA H hG => ?_
          refine list_end ?_
          refine hK68 _ _ ?_
          refine q_reg [] [(13, v77), (49, (.slice (some ⟨b22, 0, none⟩) n.toNat n.toNat)), (50, .int .i64 n), (51, .int .i64 (j + 1))] ((InR .i64 (j + 1)) ∧ (True) ∧ True) hA H ⟨⟨by omega, by omega⟩, trivial, trivial⟩ fun a w80 hA H hG => ?_
          refine ⟨(j + 1, v77, l ++ [j]), ⟨env_sub _ hA, ⟨_, H⟩, ?_⟩, ?_⟩
          · (try dsimp only); exact ⟨by omega, by omega, by (try simp only [List.length_append, List.length_cons, List.length_nil]); omega, by rw [hj, upto_succ j0, List.filter_append, List.filter_cons]; rw [hc j, List.take_of_length_le (by omega)] at hhb73; rw [if_pos (decide_eq_true hhb73)]; rfl⟩
          · (try dsimp only); omega
        · have hhb73 := of_decide_eq_false hb73
          refine go_skip ?_
          refine hK68 _ _ ?_
          refine q_reg [] [(13, vr), (49, (.slice (some ⟨b22, 0, none⟩) n.toNat n.toNat)), (50, .int .i64 n), (51, .int .i64 (j + 1))] ((InR .i64 (j + 1)) ∧ (True) ∧ True) hA H ⟨⟨by omega, by omega⟩, trivial, trivial⟩ fun a w81 hA H hG => ?_
          refine ⟨(j + 1, vr, l), ⟨env_sub _ hA, ⟨_, H⟩, ?_⟩, ?_⟩
          · (try dsimp only); exact ⟨by omega, by omega, by (try simp only [List.length_append, List.length_cons, List.length_nil]); omega, by rw [hj, upto_succ j0, List.filter_append, List.filter_cons]; rw [hc j, List.take_of_length_le (by omega)] at hhb73; rw [if_neg (by rw [decide_eq_true_eq]; exact hhb73)]; simp⟩
          · (try dsimp only); omega
      · have hhb67 := of_decide_eq_false hb67
        refine go_exit 4 ?_
        refine hK59 _ _ ?_
        refine go_seq fun K82 hK82 => ?_
        refine q_reg [] [(4, vr), (5, .int .i64 0)] ((True) ∧ (True) ∧ (True) ∧ True) hA H ⟨trivial, trivial, trivial, trivial⟩ fun a w83 hA H hG => ?_
        refine hK82 _ _ ?_
        refine go_ret_ ?_
        refine ret_two 4 5 vr (.int .i64 0) hA ?_
        have ho := (H.give 0 rfl)
        obtain rfl : j = n := by omega
        rw [cuts_upto hpt] at hj; rw [hj] at ho; exact ⟨_, rfl, ⟨_, by rw [hpt], by unfold cutsE; rw [if_neg (by omega)]; exact ho⟩, H.below⟩

end Go.Proofs.Ytahonnlgkmimlaa

set_option linter.unusedSimpArgs false
set_option linter.unusedVariables false
namespace Go.Proofs.Ytahonnlgkmimlaa
open Go.RowKit

set_option maxRecDepth 100000 in
set_option maxHeartbeats 4000000 in
theorem solid_any (n : Int) (ve : Value) (E : List (Int × Int)) (vv vl : Value) (V L : List Int) (w : World) (hn : -9223372036854775808 ≤ n ∧ n ≤ 9223372036854775807) (hE : Rd (· < w.heap.size) w ve E) (hV : Rd (· < w.heap.size) w vv V) (hL : Rd (· < w.heap.size) w vl L) :
  Calls Try.prog 50 [.agg #[.int .i64 n, ve], .agg #[vv, vl]].toArray w (Ans (.bool (solidB n E V L)) w) := by
  refine enter Try.f50 27 Try.func50 fun a hA => ?_
  replace hA := env_sub [(0, .agg #[.int .i64 n, ve]), (1, .agg #[vv, vl])] hA
  have H := Fr.start (org w)
  refine go_seq fun K1 hK1 => ?_
  refine region_list ?_
  refine list_at 0 ?_; refine q_box 0 2 24 (.tmp 0) (.agg #[.int .i64 n, ve]) [.int .i64 n, ve] [(1, .agg #[vv, vl])] hA H fun b2 a w3 H hA hG hge_b2 => ?_
  clear hge_b2
  refine list_at 1 ?_; refine q_box 1 3 29 (.tmp 1) (.agg #[vv, vl]) [vv, vl] [(2, .pointer (some ⟨b2, 0, none⟩))] hA H fun b4 a w5 H hA hG hge_b4 => ?_
  clear hge_b4
  refine q_list 2 1 [] [(2, .pointer (some ⟨b2, 0, none⟩)), (3, .pointer (some ⟨b4, 0, none⟩))] ((True) ∧ True) hA H ⟨trivial, trivial⟩ fun a w6 hA H hG => ?_
  refine list_end ?_
  refine hK1 _ _ ?_
  refine go_seq fun K7 hK7 => ?_
  refine region_list ?_
  refine q_list 0 2 [(8, .agg #[.int .i64 n, ve]), (9, .agg #[vv, vl])] [(3, .pointer (some ⟨b4, 0, none⟩)), (8, .agg #[.int .i64 n, ve]), (9, .agg #[vv, vl])] (((Try.prog.info? 24).isSome = true ∧ RowOk (On w6) b2 (0) (Try.prog.cellsOf 24) #[.int .i64 n, ve]) ∧ ((Try.prog.info? 29).isSome = true ∧ RowOk (On w6) b4 (0) (Try.prog.cellsOf 29) #[vv, vl]) ∧ True) hA H ⟨⟨by kernel_rfl, by exact box_row H 1 rfl 0 2⟩, ⟨by kernel_rfl, by exact box_row H 0 rfl 0 2⟩, trivial⟩ fun a w8 hA H hG => ?_
  refine list_at 2 ?_; refine q_call 2 10 47 #[.tmp 8, .tmp 9] #[24, 29] [.agg #[.int .i64 n, ve], .agg #[vv, vl]] (fun S v w' => ∃ p, v = .tuple #[p, .int .i64 (partE n E V L)] ∧ Rd S w' p ((blocksE n E V L))) [(3, .pointer (some ⟨b4, 0, none⟩))] hA H (by exact blocks_any n ve E vv vl V L H.at (by omega) ((H.arg hE)) ((H.arg hV)) ((H.arg hL))) fun v9 a w10 S hR11 H hA hG => ?_
  obtain ⟨v9p, rfl, hR11p⟩ := hR11
  replace H := H.ro hR11p
  replace H : Fr _ _ _ [.ro v9p (blocksE n E V L), .box b4 29 [vv, vl], .box b2 24 [.int .i64 n, ve]] := H
  refine q_list 3 5 [] [(3, .pointer (some ⟨b4, 0, none⟩)), (5, v9p), (6, .int .i64 (partE n E V L))] ((True) ∧ (True) ∧ (True) ∧ (True) ∧ (True) ∧ True) hA H ⟨trivial, trivial, trivial, trivial, trivial, trivial⟩ fun a w13 hA H hG => ?_
  refine list_end ?_
  refine hK7 _ _ ?_
  refine go_seq fun K14 hK14 => ?_
  obtain ⟨ea15, eb16, hea15c, hea15a, hea15b⟩ := cell_twoC (C := On w13) H.keepsS (H.getS 0 rfl) (0 : Int)
  refine q_draw [(17, .int .i64 ((blocksE n E V L).length : Int)), (23, .agg #[ea15, eb16]), (24, .agg #[vv, vl]), (25, .bool (decide ((((blocksE n E V L).getD (0 : Int).toNat ([], [])).1) = V) && decide ((((blocksE n E V L).getD (0 : Int).toNat ([], [])).2) = L)))] [(4, .bool (((decide (partE n E V L = 0)) && (decide (((blocksE n E V L).length : Int) = 1))) && (decide ((((blocksE n E V L).getD (0 : Int).toNat ([], [])).1) = V) && decide ((((blocksE n E V L).getD (0 : Int).toNat ([], [])).2) = L))))] ((True) ∧ (True) ∧ (True) ∧ ((decide (partE n E V L = 0)) = true → True) ∧ ((decide (partE n E V L = 0)) = true → LenOk v9p ((blocksE n E V L).length : Int)) ∧ ((decide (partE n E V L = 0)) = true → True) ∧ (True) ∧ (True) ∧ (((decide (partE n E V L = 0)) && (decide (((blocksE n E V L).length : Int) = 1))) = true → True) ∧ (((decide (partE n E V L = 0)) && (decide (((blocksE n E V L).length : Int) = 1))) = true → (Try.prog.info? 29).isSome = true ∧ IdxOk v9p 0) ∧ (((decide (partE n E V L = 0)) && (decide (((blocksE n E V L).length : Int) = 1))) = true → (Try.prog.info? 29).isSome = true ∧ RowOk (On w13) (hdB v9p) (hdO v9p + (0 : Int).toNat * 2) (Try.prog.cellsOf 29) #[ea15, eb16]) ∧ (((decide (partE n E V L = 0)) && (decide (((blocksE n E V L).length : Int) = 1))) = true → (Try.prog.info? 29).isSome = true ∧ RowOk (On w13) b4 (0) (Try.prog.cellsOf 29) #[vv, vl]) ∧ (((decide (partE n E V L = 0)) && (decide (((blocksE n E V L).length : Int) = 1))) = true → Callable Try.prog 28 ∧ CallOk Try.prog (On w13) 28 [.agg #[ea15, eb16], .agg #[vv, vl]].toArray (.bool (decide ((((blocksE n E V L).getD (0 : Int).toNat ([], [])).1) = V) && decide ((((blocksE n E V L).getD (0 : Int).toNat ([], [])).2) = L)))) ∧ (True) ∧ (True) ∧ True) hA H ⟨trivial, trivial, trivial, fun _ => trivial, fun _ => by exact len_ok (H.get 0 rfl), fun _ => trivial, trivial, trivial, fun _ => trivial, fun hg0 => by replace hg0 := (⟨of_decide_eq_true ((aT hg0).1), of_decide_eq_true ((aT hg0).2)⟩ : _ ∧ _); exact ⟨by kernel_rfl, by exact idx_ok (H.get 0 rfl) (by omega) (by omega)⟩, fun hg0 => by replace hg0 := (⟨of_decide_eq_true ((aT hg0).1), of_decide_eq_true ((aT hg0).2)⟩ : _ ∧ _); exact ⟨by kernel_rfl, by exact hea15c (by omega) (by omega)⟩, fun _ => ⟨by kernel_rfl, by exact box_row H 1 rfl 0 2⟩, fun hg0 => by replace hg0 := (⟨of_decide_eq_true ((aT hg0).1), of_decide_eq_true ((aT hg0).2)⟩ : _ ∧ _); exact ⟨callable_of, callOk_of fun w hw => by exact same_any ea15 eb16 vv vl (((blocksE n E V L).getD (0 : Int).toNat ([], [])).1) (((blocksE n E V L).getD (0 : Int).toNat ([], [])).2) V L w ((rd_on (Rd.up H.inb (hea15a (by omega) (by omega))) hw)) ((rd_on (Rd.up H.inb (hea15b (by omega) (by omega))) hw)) (((H.on hw).arg hV)) (((H.on hw).arg hL))⟩, trivial, trivial, trivial⟩ fun a w17 hA H hG => ?_
  refine hK14 _ _ ?_
  refine go_ret_ ?_
  refine ret_one 4 (.bool (((decide (partE n E V L = 0)) && (decide (((blocksE n E V L).length : Int) = 1))) && (decide ((((blocksE n E V L).getD (0 : Int).toNat ([], [])).1) = V) && decide ((((blocksE n E V L).getD (0 : Int).toNat ([], [])).2) = L)))) hA ?_
  exact ans_b' rfl H.below

end Go.Proofs.Ytahonnlgkmimlaa

set_option linter.unusedSimpArgs false
set_option linter.unusedVariables false
namespace Go.Proofs.Ytahonnlgkmimlaa
open Go.RowKit Go.Proofs.Ytahonnlgkmimlaa.Deep

abbrev awBE : List (Int × Int) := [(0, 1), (1, 2), (2, 0), (2, 3), (3, 4), (4, 2), (0, 0)]
theorem awB_blocks : blocksE 5 awBE (upto 5) (upto (awBE.length : Int)) = [([0, 1, 2], [0, 1, 2]), ([2, 3, 4], [3, 4, 5]), ([0], [6])] := by decide +kernel
theorem awB_part : partE 5 awBE (upto 5) (upto (awBE.length : Int)) = 0 := by decide +kernel
theorem awB_cuts : cutsE 5 awBE (upto 5) (upto (awBE.length : Int)) = [0, 2] := by decide +kernel

def sumI (bs : List (List Int × List Int)) : Int := ((bs.map fun b => b.2.length).sum : Nat)
section
variable {n : Int} {E : List (Int × Int)} {V L : List Int}
theorem sumI_snoc {bs : List (List Int × List Int)} {i : Int} (h0 : 0 ≤ i) (h1 : i < (bs.length : Int)) : sumI (bs.take (i + 1).toNat) = sumI (bs.take i.toNat) + ((bs.getD i.toNat ([], [])).2.length : Int) := by
  unfold sumI
  rw [take_snocD (d := ([], [])) h0 h1, List.map_append, List.sum_append]
  simp
theorem sumI_all (hp : partE n E V L = 0) : sumI (blocksL n E V L) = (L.length : Int) := by unfold sumI; rw [blocks_sum hp]
theorem sumI_le (hp : partE n E V L = 0) (i : Nat) : 0 ≤ sumI ((blocksL n E V L).take i) ∧ sumI ((blocksL n E V L).take i) ≤ (L.length : Int) := by
  have h := blocks_sum hp
  have e : ((blocksL n E V L).map fun b => b.2.length).sum = (((blocksL n E V L).take i).map fun b => b.2.length).sum + (((blocksL n E V L).drop i).map fun b => b.2.length).sum := by
    rw [← List.sum_append, ← List.map_append, List.take_append_drop]
  unfold sumI
  omega
theorem hasIn_at {bs : List (List Int × List Int)} {i x : Int} (h0 : 0 ≤ i) (h1 : i < (bs.length : Int)) (hx : x ∈ (bs.getD i.toNat ([], [])).1) :
    (hasIn (bs.take i.toNat) x).length < (hasIn bs x).length ∧ (hasIn bs x).getD (hasIn (bs.take i.toNat) x).length ([], []) = bs.getD i.toNat ([], []) := by
  have e : hasIn bs x = hasIn (bs.take i.toNat) x ++ bs.getD i.toNat ([], []) :: hasIn (bs.drop (i + 1).toNat) x := by
    conv => lhs; rw [← List.take_append_drop (i + 1).toNat bs]
    have : hasIn (bs.take (i + 1).toNat ++ bs.drop (i + 1).toNat) x = hasIn (bs.take (i + 1).toNat) x ++ hasIn (bs.drop (i + 1).toNat) x := by unfold hasIn; rw [List.filter_append]
    rw [this, hasIn_snoc h0 h1, if_pos hx]
    simp
  rw [e]
  refine ⟨by simp, ?_⟩
  rw [List.getD_eq_getElem?_getD, List.getElem?_append_right (Nat.le_refl _)]
  simp
end
end Go.Proofs.Ytahonnlgkmimlaa

set_option linter.unusedSimpArgs false
set_option linter.unusedVariables false
namespace Go.Proofs.Ytahonnlgkmimlaa
open Go.RowKit

set_option maxRecDepth 100000 in
set_option maxHeartbeats 1000000 in
theorem awakeB_any  (w : World) :
  Calls Try.prog 45 [].toArray w (Ans (.bool true) w) := by
  refine enter Try.f45 53 Try.func45 fun a hA => ?_
  replace hA := env_sub [] hA
  have H := Fr.start (org w)
  refine go_seq fun K1 hK1 => ?_
  refine q_reg [] [] ((True) ∧ True) hA H ⟨trivial, trivial⟩ fun a w2 hA H hG => ?_
  refine hK1 _ _ ?_
  refine go_seq fun K3 hK3 => ?_
  refine region_list ?_
  refine q_list 0 7 [(6, .agg #[.int .i64 0, .int .i64 1]), (7, .agg #[.int .i64 1, .int .i64 2]), (8, .agg #[.int .i64 2, .int .i64 0]), (9, .agg #[.int .i64 2, .int .i64 3]), (10, .agg #[.int .i64 3, .int .i64 4]), (11, .agg #[.int .i64 4, .int .i64 2]), (12, .agg #[.int .i64 0, .int .i64 0])] [(6, .agg #[.int .i64 0, .int .i64 1]), (7, .agg #[.int .i64 1, .int .i64 2]), (8, .agg #[.int .i64 2, .int .i64 0]), (9, .agg #[.int .i64 2, .int .i64 3]), (10, .agg #[.int .i64 3, .int .i64 4]), (11, .agg #[.int .i64 4, .int .i64 2]), (12, .agg #[.int .i64 0, .int .i64 0])] ((∀ w, (Instr.build 99 #[(0, .int .i64 0), (1, .int .i64 1)]).run Try.prog w = .ok (.agg #[.int .i64 0, .int .i64 1]) w) ∧ (∀ w, (Instr.build 99 #[(0, .int .i64 1), (1, .int .i64 2)]).run Try.prog w = .ok (.agg #[.int .i64 1, .int .i64 2]) w) ∧ (∀ w, (Instr.build 99 #[(0, .int .i64 2), (1, .int .i64 0)]).run Try.prog w = .ok (.agg #[.int .i64 2, .int .i64 0]) w) ∧ (∀ w, (Instr.build 99 #[(0, .int .i64 2), (1, .int .i64 3)]).run Try.prog w = .ok (.agg #[.int .i64 2, .int .i64 3]) w) ∧ (∀ w, (Instr.build 99 #[(0, .int .i64 3), (1, .int .i64 4)]).run Try.prog w = .ok (.agg #[.int .i64 3, .int .i64 4]) w) ∧ (∀ w, (Instr.build 99 #[(0, .int .i64 4), (1, .int .i64 2)]).run Try.prog w = .ok (.agg #[.int .i64 4, .int .i64 2]) w) ∧ (∀ w, (Instr.build 99 #[]).run Try.prog w = .ok (.agg #[.int .i64 0, .int .i64 0]) w) ∧ True) hA H ⟨fun w => by kernel_rfl, fun w => by kernel_rfl, fun w => by kernel_rfl, fun w => by kernel_rfl, fun w => by kernel_rfl, fun w => by kernel_rfl, fun w => by kernel_rfl, trivial⟩ fun a w4 hA H hG => ?_
  refine list_at 7 ?_; refine q_lit 7 13 22 7 #[(0, .tmp 6), (1, .tmp 7), (2, .tmp 8), (3, .tmp 9), (4, .tmp 10), (5, .tmp 11), (6, .tmp 12)] 99 [(0, .agg #[.int .i64 0, .int .i64 1]), (1, .agg #[.int .i64 1, .int .i64 2]), (2, .agg #[.int .i64 2, .int .i64 0]), (3, .agg #[.int .i64 2, .int .i64 3]), (4, .agg #[.int .i64 3, .int .i64 4]), (5, .agg #[.int .i64 4, .int .i64 2]), (6, .agg #[.int .i64 0, .int .i64 0])] [.int .i64 0, .int .i64 1, .int .i64 1, .int .i64 2, .int .i64 2, .int .i64 0, .int .i64 2, .int .i64 3, .int .i64 3, .int .i64 4, .int .i64 4, .int .i64 2, .int .i64 0, .int .i64 0] [] hA H fun b5 a w6 H hA hG hge_b5 => ?_
  clear hge_b5
  refine q_list 8 1 [(14, .agg #[.int .i64 5, (.slice (some ⟨b5, 0, none⟩) 7 7)])] [(14, .agg #[.int .i64 5, (.slice (some ⟨b5, 0, none⟩) 7 7)])] ((∀ w, (Instr.build 24 #[(0, .int .i64 5), (1, (.slice (some ⟨b5, 0, none⟩) 7 7))]).run Try.prog w = .ok (.agg #[.int .i64 5, (.slice (some ⟨b5, 0, none⟩) 7 7)]) w) ∧ True) hA H ⟨fun w => by kernel_rfl, trivial⟩ fun a w7 hA H hG => ?_
  refine list_at 9 ?_; refine q_alloc 9 1 24 [.int .i64 0, (.slice none 0 0)] [(14, .agg #[.int .i64 5, (.slice (some ⟨b5, 0, none⟩) 7 7)])] hA H fun b8 a w9 H hA hG hge_b8 => ?_
  clear hge_b8
  refine list_at 10 ?_; refine q_store 10 24 (.tmp 1) (.tmp 14) 0 b8 (0) 24 [.int .i64 0, (.slice none 0 0)] [.int .i64 5, (.slice (some ⟨b5, 0, none⟩) 7 7)] [.int .i64 5, (.slice (some ⟨b5, 0, none⟩) 7 7)] (.agg #[.int .i64 5, (.slice (some ⟨b5, 0, none⟩) 7 7)]) [(1, .pointer (some ⟨b8, 0, none⟩))] hA H rfl rfl (Nat.le_of_ble_eq_true (by kernel_rfl)) rfl (fun v hv => by simp only [List.mem_cons, List.not_mem_nil, or_false] at hv; rcases hv with rfl | rfl; exact rfl; exact rfl) fun a w10 H hA hG => ?_
  replace H : Fr _ _ _ [.box b8 24 [.int .i64 5, (.slice (some ⟨b5, 0, none⟩) 7 7)], .box b5 99 [.int .i64 0, .int .i64 1, .int .i64 1, .int .i64 2, .int .i64 2, .int .i64 0, .int .i64 2, .int .i64 3, .int .i64 3, .int .i64 4, .int .i64 4, .int .i64 2, .int .i64 0, .int .i64 0]] := H
  refine list_end ?_
  refine hK3 _ _ ?_
  refine go_seq fun K11 hK11 => ?_
  have H0 := H
  have hM0 := H0.keeps none (.inl rfl)
  refine region_mix (But w10 none) [0, 1, 2, 3, 4, 5, 6, 7] 9 ?_
  replace H := H.drawn; have hD := But.drew w10 none
  generalize ({ w10 with drawn := w10.drawn + 1 } : World) = w12 at H hD ⊢
  refine m_take (n := 7) [0, 1] #[true, true, false, false, false, false, false, false, false] [(16, .agg #[.int .i64 5, (.slice (some ⟨b5, 0, none⟩) 7 7)]), (17, .agg #[.int .i64 5, (.slice (some ⟨b5, 0, none⟩) 7 7)])] [(1, .pointer (some ⟨b8, 0, none⟩)), (16, .agg #[.int .i64 5, (.slice (some ⟨b5, 0, none⟩) 7 7)]), (17, .agg #[.int .i64 5, (.slice (some ⟨b5, 0, none⟩) 7 7)])] (((Try.prog.info? 24).isSome = true ∧ RowOk (But w10 none) b8 (0) (Try.prog.cellsOf 24) #[.int .i64 5, (.slice (some ⟨b5, 0, none⟩) 7 7)]) ∧ ((Try.prog.info? 24).isSome = true ∧ RowOk (But w10 none) b8 (0) (Try.prog.cellsOf 24) #[.int .i64 5, (.slice (some ⟨b5, 0, none⟩) 7 7)]) ∧ True) hA hD ⟨⟨by kernel_rfl, by exact box_rowC (box_atC H0 none 0 rfl (fun e => by cases e)) 0 2⟩, ⟨by kernel_rfl, by exact box_rowC (box_atC H0 none 0 rfl (fun e => by cases e)) 0 2⟩, trivial⟩ fun a hA => ?_
  refine m_one 2 ?_; refine q_call 2 18 33 #[.tmp 17] #[24] [.agg #[.int .i64 5, (.slice (some ⟨b5, 0, none⟩) 7 7)]] (fun S v_ w' => Rd S w' v_ ((upto 5, upto (([(0, 1), (1, 2), (2, 0), (2, 3), (3, 4), (4, 2), (0, 0)] : List (Int × Int)).length : Int)))) [(1, .pointer (some ⟨b8, 0, none⟩)), (16, .agg #[.int .i64 5, (.slice (some ⟨b5, 0, none⟩) 7 7)])] hA H (by exact rwhole_any 5 (.slice (some ⟨b5, 0, none⟩) 7 7) ([(0, 1), (1, 2), (2, 0), (2, 3), (3, 4), (4, 2), (0, 0)] : List (Int × Int)) H.at (by omega) ((H.lit 1 rfl (by exact (((((((RowRd.single (α := Int × Int) (a := (0, 1)) (by exact ⟨[_], _, rfl, rfl, rfl⟩)).append (RowRd.single (α := Int × Int) (a := (1, 2)) (by exact ⟨[_], _, rfl, rfl, rfl⟩))).append (RowRd.single (α := Int × Int) (a := (2, 0)) (by exact ⟨[_], _, rfl, rfl, rfl⟩))).append (RowRd.single (α := Int × Int) (a := (2, 3)) (by exact ⟨[_], _, rfl, rfl, rfl⟩))).append (RowRd.single (α := Int × Int) (a := (3, 4)) (by exact ⟨[_], _, rfl, rfl, rfl⟩))).append (RowRd.single (α := Int × Int) (a := (4, 2)) (by exact ⟨[_], _, rfl, rfl, rfl⟩))).append (RowRd.single (α := Int × Int) (a := (0, 0)) (by exact ⟨[_], _, rfl, rfl, rfl⟩)))) rfl (by decide))) (by first | omega | decide) (by first | omega | decide)) fun v13 a w14 S hR15 H hA hG => ?_
  obtain ⟨v13a, v13b, rfl, hR15a, hR15b⟩ := two_rd hR15
  replace H := H.ro hR15a; replace H := H.ro hR15b
  replace H : Fr _ _ _ [.ro v13b (upto (([(0, 1), (1, 2), (2, 0), (2, 3), (3, 4), (4, 2), (0, 0)] : List (Int × Int)).length : Int)), .ro v13a (upto 5), .box b8 24 [.int .i64 5, (.slice (some ⟨b5, 0, none⟩) 7 7)], .box b5 99 [.int .i64 0, .int .i64 1, .int .i64 1, .int .i64 2, .int .i64 2, .int .i64 0, .int .i64 2, .int .i64 3, .int .i64 3, .int .i64 4, .int .i64 4, .int .i64 2, .int .i64 0, .int .i64 0]] := H
  replace hD := hD.below hG
  refine ⟨fun _ => hD, ?_⟩
  refine m_one 3 ?_; refine q_call 3 19 47 #[.tmp 16, .tmp 18] #[24, 29] [.agg #[.int .i64 5, (.slice (some ⟨b5, 0, none⟩) 7 7)], .agg #[v13a, v13b]] (fun S v_ w' => ∃ p_, v_ = .tuple #[p_, .int .i64 0] ∧ Rd S w' p_ (([([0, 1, 2], [0, 1, 2]), ([2, 3, 4], [3, 4, 5]), ([0], [6])] : List (List Int × List Int)))) [(1, .pointer (some ⟨b8, 0, none⟩))] hA H (by exact (by have h := blocks_any 5 (.slice (some ⟨b5, 0, none⟩) 7 7) ([(0, 1), (1, 2), (2, 0), (2, 3), (3, 4), (4, 2), (0, 0)] : List (Int × Int)) v13a v13b (upto 5) (upto (([(0, 1), (1, 2), (2, 0), (2, 3), (3, 4), (4, 2), (0, 0)] : List (Int × Int)).length : Int)) H.at (by omega) ((H.lit 3 rfl (by exact (((((((RowRd.single (α := Int × Int) (a := (0, 1)) (by exact ⟨[_], _, rfl, rfl, rfl⟩)).append (RowRd.single (α := Int × Int) (a := (1, 2)) (by exact ⟨[_], _, rfl, rfl, rfl⟩))).append (RowRd.single (α := Int × Int) (a := (2, 0)) (by exact ⟨[_], _, rfl, rfl, rfl⟩))).append (RowRd.single (α := Int × Int) (a := (2, 3)) (by exact ⟨[_], _, rfl, rfl, rfl⟩))).append (RowRd.single (α := Int × Int) (a := (3, 4)) (by exact ⟨[_], _, rfl, rfl, rfl⟩))).append (RowRd.single (α := Int × Int) (a := (4, 2)) (by exact ⟨[_], _, rfl, rfl, rfl⟩))).append (RowRd.single (α := Int × Int) (a := (0, 0)) (by exact ⟨[_], _, rfl, rfl, rfl⟩)))) rfl (by decide))) ((H.get 1 rfl)) ((H.get 0 rfl)); rw [awB_blocks, awB_part] at h; exact h)) fun v18 a w19 S hR20 H hA hG => ?_
  obtain ⟨v18p, rfl, hR20p⟩ := hR20
  replace H := H.ro hR20p
  replace H : Fr _ _ _ [.ro v18p ([([0, 1, 2], [0, 1, 2]), ([2, 3, 4], [3, 4, 5]), ([0], [6])] : List (List Int × List Int)), .ro v13b (upto (([(0, 1), (1, 2), (2, 0), (2, 3), (3, 4), (4, 2), (0, 0)] : List (Int × Int)).length : Int)), .ro v13a (upto 5), .box b8 24 [.int .i64 5, (.slice (some ⟨b5, 0, none⟩) 7 7)], .box b5 99 [.int .i64 0, .int .i64 1, .int .i64 1, .int .i64 2, .int .i64 2, .int .i64 0, .int .i64 2, .int .i64 3, .int .i64 3, .int .i64 4, .int .i64 4, .int .i64 2, .int .i64 0, .int .i64 0]] := H
  replace hD := hD.below hG
  refine ⟨fun _ => hD, ?_⟩
  refine m_take (n := 1) [4, 5, 6, 7] #[true, true, true, true, true, true, true, true, false] [] [(1, .pointer (some ⟨b8, 0, none⟩)), (2, v18p), (21, .int .i64 0)] ((True) ∧ (True) ∧ (True) ∧ (True) ∧ True) hA hD ⟨trivial, trivial, trivial, trivial, trivial⟩ fun a hA => ?_
  refine m_one 8 ?_; refine q_one 8 [] [(1, .pointer (some ⟨b8, 0, none⟩)), (2, v18p), (3, .int .i64 0)] ((True) ∧ True) hA H ⟨trivial, trivial⟩ fun a w22 H hA hG => ?_
  refine ⟨fun h => absurd h (by decide), ?_⟩
  refine m_end ?_
  refine hK11 _ _ ?_
  refine go_seq fun K23 hK23 => ?_
  have H0 := H
  have hM0 := H0.keeps none (.inl rfl)
  refine region_mix (But w22 none) [0, 1, 2, 3, 4, 5, 6, 7] 9 ?_
  replace H := H.drawn; have hD := But.drew w22 none
  generalize ({ w22 with drawn := w22.drawn + 1 } : World) = w24 at H hD ⊢
  refine m_take (n := 7) [0, 1] #[true, true, false, false, false, false, false, false, false] [(23, .agg #[.int .i64 5, (.slice (some ⟨b5, 0, none⟩) 7 7)]), (24, .agg #[.int .i64 5, (.slice (some ⟨b5, 0, none⟩) 7 7)])] [(2, v18p), (3, .int .i64 0), (23, .agg #[.int .i64 5, (.slice (some ⟨b5, 0, none⟩) 7 7)]), (24, .agg #[.int .i64 5, (.slice (some ⟨b5, 0, none⟩) 7 7)])] (((Try.prog.info? 24).isSome = true ∧ RowOk (But w22 none) b8 (0) (Try.prog.cellsOf 24) #[.int .i64 5, (.slice (some ⟨b5, 0, none⟩) 7 7)]) ∧ ((Try.prog.info? 24).isSome = true ∧ RowOk (But w22 none) b8 (0) (Try.prog.cellsOf 24) #[.int .i64 5, (.slice (some ⟨b5, 0, none⟩) 7 7)]) ∧ True) hA hD ⟨⟨by kernel_rfl, by exact box_rowC (box_atC H0 none 3 rfl (fun e => by cases e)) 0 2⟩, ⟨by kernel_rfl, by exact box_rowC (box_atC H0 none 3 rfl (fun e => by cases e)) 0 2⟩, trivial⟩ fun a hA => ?_
  refine m_one 2 ?_; refine q_call 2 25 33 #[.tmp 24] #[24] [.agg #[.int .i64 5, (.slice (some ⟨b5, 0, none⟩) 7 7)]] (fun S v_ w' => Rd S w' v_ ((upto 5, upto (([(0, 1), (1, 2), (2, 0), (2, 3), (3, 4), (4, 2), (0, 0)] : List (Int × Int)).length : Int)))) [(2, v18p), (3, .int .i64 0), (23, .agg #[.int .i64 5, (.slice (some ⟨b5, 0, none⟩) 7 7)])] hA H (by exact rwhole_any 5 (.slice (some ⟨b5, 0, none⟩) 7 7) ([(0, 1), (1, 2), (2, 0), (2, 3), (3, 4), (4, 2), (0, 0)] : List (Int × Int)) H.at (by omega) ((H.lit 4 rfl (by exact (((((((RowRd.single (α := Int × Int) (a := (0, 1)) (by exact ⟨[_], _, rfl, rfl, rfl⟩)).append (RowRd.single (α := Int × Int) (a := (1, 2)) (by exact ⟨[_], _, rfl, rfl, rfl⟩))).append (RowRd.single (α := Int × Int) (a := (2, 0)) (by exact ⟨[_], _, rfl, rfl, rfl⟩))).append (RowRd.single (α := Int × Int) (a := (2, 3)) (by exact ⟨[_], _, rfl, rfl, rfl⟩))).append (RowRd.single (α := Int × Int) (a := (3, 4)) (by exact ⟨[_], _, rfl, rfl, rfl⟩))).append (RowRd.single (α := Int × Int) (a := (4, 2)) (by exact ⟨[_], _, rfl, rfl, rfl⟩))).append (RowRd.single (α := Int × Int) (a := (0, 0)) (by exact ⟨[_], _, rfl, rfl, rfl⟩)))) rfl (by decide))) (by first | omega | decide) (by first | omega | decide)) fun v25 a w26 S hR27 H hA hG => ?_
  obtain ⟨v25a, v25b, rfl, hR27a, hR27b⟩ := two_rd hR27
  replace H := H.ro hR27a; replace H := H.ro hR27b
  replace H : Fr _ _ _ [.ro v25b (upto (([(0, 1), (1, 2), (2, 0), (2, 3), (3, 4), (4, 2), (0, 0)] : List (Int × Int)).length : Int)), .ro v25a (upto 5), .ro v18p ([([0, 1, 2], [0, 1, 2]), ([2, 3, 4], [3, 4, 5]), ([0], [6])] : List (List Int × List Int)), .ro v13b (upto (([(0, 1), (1, 2), (2, 0), (2, 3), (3, 4), (4, 2), (0, 0)] : List (Int × Int)).length : Int)), .ro v13a (upto 5), .box b8 24 [.int .i64 5, (.slice (some ⟨b5, 0, none⟩) 7 7)], .box b5 99 [.int .i64 0, .int .i64 1, .int .i64 1, .int .i64 2, .int .i64 2, .int .i64 0, .int .i64 2, .int .i64 3, .int .i64 3, .int .i64 4, .int .i64 4, .int .i64 2, .int .i64 0, .int .i64 0]] := H
  replace hD := hD.below hG
  refine ⟨fun _ => hD, ?_⟩
  refine m_one 3 ?_; refine q_call 3 26 48 #[.tmp 23, .tmp 25] #[24, 29] [.agg #[.int .i64 5, (.slice (some ⟨b5, 0, none⟩) 7 7)], .agg #[v25a, v25b]] (fun S v_ w' => ∃ p_, v_ = .tuple #[p_, .int .i64 0] ∧ Rd S w' p_ (([0, 2] : List Int))) [(2, v18p), (3, .int .i64 0)] hA H (by exact (by have h := cuts_any 5 (.slice (some ⟨b5, 0, none⟩) 7 7) ([(0, 1), (1, 2), (2, 0), (2, 3), (3, 4), (4, 2), (0, 0)] : List (Int × Int)) v25a v25b (upto 5) (upto (([(0, 1), (1, 2), (2, 0), (2, 3), (3, 4), (4, 2), (0, 0)] : List (Int × Int)).length : Int)) H.at (by omega) ((H.lit 6 rfl (by exact (((((((RowRd.single (α := Int × Int) (a := (0, 1)) (by exact ⟨[_], _, rfl, rfl, rfl⟩)).append (RowRd.single (α := Int × Int) (a := (1, 2)) (by exact ⟨[_], _, rfl, rfl, rfl⟩))).append (RowRd.single (α := Int × Int) (a := (2, 0)) (by exact ⟨[_], _, rfl, rfl, rfl⟩))).append (RowRd.single (α := Int × Int) (a := (2, 3)) (by exact ⟨[_], _, rfl, rfl, rfl⟩))).append (RowRd.single (α := Int × Int) (a := (3, 4)) (by exact ⟨[_], _, rfl, rfl, rfl⟩))).append (RowRd.single (α := Int × Int) (a := (4, 2)) (by exact ⟨[_], _, rfl, rfl, rfl⟩))).append (RowRd.single (α := Int × Int) (a := (0, 0)) (by exact ⟨[_], _, rfl, rfl, rfl⟩)))) rfl (by decide))) ((H.get 1 rfl)) ((H.get 0 rfl)); rw [awB_cuts, awB_part] at h; exact h)) fun v30 a w31 S hR32 H hA hG => ?_
  obtain ⟨v30p, rfl, hR32p⟩ := hR32
  replace H := H.ro hR32p
  replace H : Fr _ _ _ [.ro v30p ([0, 2] : List Int), .ro v25b (upto (([(0, 1), (1, 2), (2, 0), (2, 3), (3, 4), (4, 2), (0, 0)] : List (Int × Int)).length : Int)), .ro v25a (upto 5), .ro v18p ([([0, 1, 2], [0, 1, 2]), ([2, 3, 4], [3, 4, 5]), ([0], [6])] : List (List Int × List Int)), .ro v13b (upto (([(0, 1), (1, 2), (2, 0), (2, 3), (3, 4), (4, 2), (0, 0)] : List (Int × Int)).length : Int)), .ro v13a (upto 5), .box b8 24 [.int .i64 5, (.slice (some ⟨b5, 0, none⟩) 7 7)], .box b5 99 [.int .i64 0, .int .i64 1, .int .i64 1, .int .i64 2, .int .i64 2, .int .i64 0, .int .i64 2, .int .i64 3, .int .i64 3, .int .i64 4, .int .i64 4, .int .i64 2, .int .i64 0, .int .i64 0]] := H
  replace hD := hD.below hG
  refine ⟨fun _ => hD, ?_⟩
  refine m_take (n := 1) [4, 5, 6, 7] #[true, true, true, true, true, true, true, true, false] [] [(2, v18p), (3, .int .i64 0), (4, v30p), (28, .int .i64 0)] ((True) ∧ (True) ∧ (True) ∧ (True) ∧ True) hA hD ⟨trivial, trivial, trivial, trivial, trivial⟩ fun a hA => ?_
  refine m_one 8 ?_; refine q_one 8 [] [(2, v18p), (3, .int .i64 0), (4, v30p), (5, .int .i64 0)] ((True) ∧ True) hA H ⟨trivial, trivial⟩ fun a w34 H hA hG => ?_
  refine ⟨fun h => absurd h (by decide), ?_⟩
  refine m_end ?_
  refine hK23 _ _ ?_
  refine go_seq fun K35 hK35 => ?_
  refine region_list ?_
  refine q_list 0 12 [(37, .int .i64 (([([0, 1, 2], [0, 1, 2]), ([2, 3, 4], [3, 4, 5]), ([0], [6])] : List (List Int × List Int)).length : Int))] [(2, v18p), (4, v30p), (40, .bool (((decide ((0 : Int) = 0)) && (decide ((0 : Int) = 0))) && (decide ((([([0, 1, 2], [0, 1, 2]), ([2, 3, 4], [3, 4, 5]), ([0], [6])] : List (List Int × List Int)).length : Int) = 3))))] ((True) ∧ (True) ∧ (True) ∧ ((decide ((0 : Int) = 0)) = true → True) ∧ ((decide ((0 : Int) = 0)) = true → True) ∧ (True) ∧ (True) ∧ (((decide ((0 : Int) = 0)) && (decide ((0 : Int) = 0))) = true → True) ∧ (((decide ((0 : Int) = 0)) && (decide ((0 : Int) = 0))) = true → LenOk v18p (([([0, 1, 2], [0, 1, 2]), ([2, 3, 4], [3, 4, 5]), ([0], [6])] : List (List Int × List Int)).length : Int)) ∧ (((decide ((0 : Int) = 0)) && (decide ((0 : Int) = 0))) = true → True) ∧ (True) ∧ (True) ∧ True) hA H ⟨trivial, trivial, trivial, fun _ => trivial, fun _ => trivial, trivial, trivial, fun _ => trivial, fun _ => by exact len_ok (H.get 3 rfl), fun _ => trivial, trivial, trivial, trivial⟩ fun a w36 hA H hG => ?_
  have hb37 : (((decide ((0 : Int) = 0)) && (decide ((0 : Int) = 0))) && (decide ((([([0, 1, 2], [0, 1, 2]), ([2, 3, 4], [3, 4, 5]), ([0], [6])] : List (List Int × List Int)).length : Int) = 3))) = true := (by decide +kernel)
  have hhb37 := (⟨(⟨of_decide_eq_true ((aT ((aT hb37).1)).1), of_decide_eq_true ((aT ((aT hb37).1)).2)⟩ : _ ∧ _), of_decide_eq_true ((aT hb37).2)⟩ : _ ∧ _)
  obtain ⟨ea38, eb39, hea38c, hea38a, hea38b⟩ := cell_twoC (C := On w36) H.keepsS (H.getS 3 rfl) (1 : Int)
  replace H := (H.ro (hea38a (by first | omega | decide +kernel) (by first | omega | decide +kernel))).sink 1 8
  replace H := (H.ro (hea38b (by first | omega | decide +kernel) (by first | omega | decide +kernel))).sink 1 9
  replace H : Fr _ _ _ [.ro v30p ([0, 2] : List Int), .ro v25b (upto (([(0, 1), (1, 2), (2, 0), (2, 3), (3, 4), (4, 2), (0, 0)] : List (Int × Int)).length : Int)), .ro v25a (upto 5), .ro v18p ([([0, 1, 2], [0, 1, 2]), ([2, 3, 4], [3, 4, 5]), ([0], [6])] : List (List Int × List Int)), .ro v13b (upto (([(0, 1), (1, 2), (2, 0), (2, 3), (3, 4), (4, 2), (0, 0)] : List (Int × Int)).length : Int)), .ro v13a (upto 5), .box b8 24 [.int .i64 5, (.slice (some ⟨b5, 0, none⟩) 7 7)], .box b5 99 [.int .i64 0, .int .i64 1, .int .i64 1, .int .i64 2, .int .i64 2, .int .i64 0, .int .i64 2, .int .i64 3, .int .i64 3, .int .i64 4, .int .i64 4, .int .i64 2, .int .i64 0, .int .i64 0], .ro ea38 (([([0, 1, 2], [0, 1, 2]), ([2, 3, 4], [3, 4, 5]), ([0], [6])] : List (List Int × List Int)).getD (1 : Int).toNat ([], [])).1, .ro eb39 (([([0, 1, 2], [0, 1, 2]), ([2, 3, 4], [3, 4, 5]), ([0], [6])] : List (List Int × List Int)).getD (1 : Int).toNat ([], [])).2] := H
  refine q_listK [(40, true)] 12 4 [(44, eb39)] [(4, v30p), (40, .bool (((decide ((0 : Int) = 0)) && (decide ((0 : Int) = 0))) && (decide ((([([0, 1, 2], [0, 1, 2]), ([2, 3, 4], [3, 4, 5]), ([0], [6])] : List (List Int × List Int)).length : Int) = 3)))), (44, eb39)] (((((((decide ((0 : Int) = 0)) && (decide ((0 : Int) = 0))) && (decide ((([([0, 1, 2], [0, 1, 2]), ([2, 3, 4], [3, 4, 5]), ([0], [6])] : List (List Int × List Int)).length : Int) = 3))) = true) ∧ True) ∧ (True)) ∧ ((((((decide ((0 : Int) = 0)) && (decide ((0 : Int) = 0))) && (decide ((([([0, 1, 2], [0, 1, 2]), ([2, 3, 4], [3, 4, 5]), ([0], [6])] : List (List Int × List Int)).length : Int) = 3))) = true) ∧ True) ∧ ((Try.prog.info? 29).isSome = true ∧ IdxOk v18p 1)) ∧ ((((((decide ((0 : Int) = 0)) && (decide ((0 : Int) = 0))) && (decide ((([([0, 1, 2], [0, 1, 2]), ([2, 3, 4], [3, 4, 5]), ([0], [6])] : List (List Int × List Int)).length : Int) = 3))) = true) ∧ True) ∧ (0 < Try.prog.cellsOf 27)) ∧ ((((((decide ((0 : Int) = 0)) && (decide ((0 : Int) = 0))) && (decide ((([([0, 1, 2], [0, 1, 2]), ([2, 3, 4], [3, 4, 5]), ([0], [6])] : List (List Int × List Int)).length : Int) = 3))) = true) ∧ True) ∧ (CellOk (On w36) (hdB v18p) (hdO v18p + (1 : Int).toNat * 2 + 1) (eb39))) ∧ True) hA H ⟨⟨⟨hb37, trivial⟩, trivial⟩, ⟨⟨hb37, trivial⟩, ⟨by kernel_rfl, by exact idx_ok (H.get 3 rfl) (by first | omega | decide +kernel) (by first | omega | decide +kernel)⟩⟩, ⟨⟨hb37, trivial⟩, by decide +kernel⟩, ⟨⟨hb37, trivial⟩, by exact row_cellC (hea38c (by first | omega | decide +kernel) (by first | omega | decide +kernel)) 1⟩, trivial⟩ fun a w40 hA H hG => ?_
  refine list_at 16 ?_; refine op_on [(40, true)] (((((decide ((0 : Int) = 0)) && (decide ((0 : Int) = 0))) && (decide ((([([0, 1, 2], [0, 1, 2]), ([2, 3, 4], [3, 4, 5]), ([0], [6])] : List (List Int × List Int)).length : Int) = 3))) = true) ∧ True) hA ⟨hb37, trivial⟩ ?_; refine q_lit 16 45 27 3 #[(0, .const (.int .i64 3)), (1, .const (.int .i64 4)), (2, .const (.int .i64 5))] 3 [(0, .int .i64 3), (1, .int .i64 4), (2, .int .i64 5)] [.int .i64 3, .int .i64 4, .int .i64 5] [(4, v30p), (40, .bool (((decide ((0 : Int) = 0)) && (decide ((0 : Int) = 0))) && (decide ((([([0, 1, 2], [0, 1, 2]), ([2, 3, 4], [3, 4, 5]), ([0], [6])] : List (List Int × List Int)).length : Int) = 3)))), (44, eb39)] hA H fun b41 a w42 H hA hG hge_b41 => ?_
  clear hge_b41
  refine q_listK [(40, true)] 17 3 [(46, .bool (decide (((([([0, 1, 2], [0, 1, 2]), ([2, 3, 4], [3, 4, 5]), ([0], [6])] : List (List Int × List Int)).getD (1 : Int).toNat ([], [])).2) = ([3, 4, 5] : List Int))))] [(4, v30p), (48, .bool (decide (((([([0, 1, 2], [0, 1, 2]), ([2, 3, 4], [3, 4, 5]), ([0], [6])] : List (List Int × List Int)).getD (1 : Int).toNat ([], [])).2) = ([3, 4, 5] : List Int))))] (((((((decide ((0 : Int) = 0)) && (decide ((0 : Int) = 0))) && (decide ((([([0, 1, 2], [0, 1, 2]), ([2, 3, 4], [3, 4, 5]), ([0], [6])] : List (List Int × List Int)).length : Int) = 3))) = true) ∧ True) ∧ (Callable Try.prog 36 ∧ CallOk Try.prog (On w42) 36 [eb39, (.slice (some ⟨b41, 0, none⟩) 3 3)].toArray (.bool (decide (((([([0, 1, 2], [0, 1, 2]), ([2, 3, 4], [3, 4, 5]), ([0], [6])] : List (List Int × List Int)).getD (1 : Int).toNat ([], [])).2) = ([3, 4, 5] : List Int)))))) ∧ ((True) ∧ ((((decide ((0 : Int) = 0)) && (decide ((0 : Int) = 0))) && (decide ((([([0, 1, 2], [0, 1, 2]), ([2, 3, 4], [3, 4, 5]), ([0], [6])] : List (List Int × List Int)).length : Int) = 3))) = true)) ∧ ((True) ∧ (True)) ∧ True) hA H ⟨⟨⟨hb37, trivial⟩, ⟨callable_of, callOk_of fun w hw => by exact requal_any eb39 (.slice (some ⟨b41, 0, none⟩) 3 3) ((([([0, 1, 2], [0, 1, 2]), ([2, 3, 4], [3, 4, 5]), ([0], [6])] : List (List Int × List Int)).getD (1 : Int).toNat ([], [])).2) ([3, 4, 5] : List Int) w (((H.on hw).get 10 rfl)) (((H.on hw).lit 0 rfl (by exact (((RowRd.single (α := Int) (a := 3) (by exact rfl)).append (RowRd.single (α := Int) (a := 4) (by exact rfl))).append (RowRd.single (α := Int) (a := 5) (by exact rfl)))) rfl (by decide)))⟩⟩, ⟨trivial, hb37⟩, ⟨trivial, trivial⟩, trivial⟩ fun a w43 hA H hG => ?_
  have hb44 : (decide (((([([0, 1, 2], [0, 1, 2]), ([2, 3, 4], [3, 4, 5]), ([0], [6])] : List (List Int × List Int)).getD (1 : Int).toNat ([], [])).2) = ([3, 4, 5] : List Int))) = true := (by decide +kernel)
  have hhb44 := of_decide_eq_true hb44
  refine q_listK [(40, true), (48, true)] 20 1 [] [(48, .bool (decide (((([([0, 1, 2], [0, 1, 2]), ([2, 3, 4], [3, 4, 5]), ([0], [6])] : List (List Int × List Int)).getD (1 : Int).toNat ([], [])).2) = ([3, 4, 5] : List Int)))), (49, v30p)] (((((decide (((([([0, 1, 2], [0, 1, 2]), ([2, 3, 4], [3, 4, 5]), ([0], [6])] : List (List Int × List Int)).getD (1 : Int).toNat ([], [])).2) = ([3, 4, 5] : List Int))) = true) ∧ True) ∧ (True)) ∧ True) hA H ⟨⟨⟨hb44, trivial⟩, trivial⟩, trivial⟩ fun a w45 hA H hG => ?_
  refine list_at 21 ?_; refine op_on [(40, true), (48, true)] (((decide (((([([0, 1, 2], [0, 1, 2]), ([2, 3, 4], [3, 4, 5]), ([0], [6])] : List (List Int × List Int)).getD (1 : Int).toNat ([], [])).2) = ([3, 4, 5] : List Int))) = true) ∧ True) hA ⟨hb44, trivial⟩ ?_; refine q_lit 21 50 27 2 #[(0, .const (.int .i64 0)), (1, .const (.int .i64 2))] 3 [(0, .int .i64 0), (1, .int .i64 2)] [.int .i64 0, .int .i64 2] [(48, .bool (decide (((([([0, 1, 2], [0, 1, 2]), ([2, 3, 4], [3, 4, 5]), ([0], [6])] : List (List Int × List Int)).getD (1 : Int).toNat ([], [])).2) = ([3, 4, 5] : List Int)))), (49, v30p)] hA H fun b46 a w47 H hA hG hge_b46 => ?_
  clear hge_b46
  refine q_listK [(40, true), (48, true)] 22 3 [(51, .bool (decide (([0, 2] : List Int) = ([0, 2] : List Int))))] [(0, .bool (decide (([0, 2] : List Int) = ([0, 2] : List Int))))] (((((decide (((([([0, 1, 2], [0, 1, 2]), ([2, 3, 4], [3, 4, 5]), ([0], [6])] : List (List Int × List Int)).getD (1 : Int).toNat ([], [])).2) = ([3, 4, 5] : List Int))) = true) ∧ True) ∧ (Callable Try.prog 36 ∧ CallOk Try.prog (On w47) 36 [v30p, (.slice (some ⟨b46, 0, none⟩) 2 2)].toArray (.bool (decide (([0, 2] : List Int) = ([0, 2] : List Int)))))) ∧ ((True) ∧ ((decide (((([([0, 1, 2], [0, 1, 2]), ([2, 3, 4], [3, 4, 5]), ([0], [6])] : List (List Int × List Int)).getD (1 : Int).toNat ([], [])).2) = ([3, 4, 5] : List Int))) = true)) ∧ ((True) ∧ (True)) ∧ True) hA H ⟨⟨⟨hb44, trivial⟩, ⟨callable_of, callOk_of fun w hw => by exact requal_any v30p (.slice (some ⟨b46, 0, none⟩) 2 2) ([0, 2] : List Int) ([0, 2] : List Int) w (((H.on hw).get 2 rfl)) (((H.on hw).lit 0 rfl (by exact ((RowRd.single (α := Int) (a := 0) (by exact rfl)).append (RowRd.single (α := Int) (a := 2) (by exact rfl)))) rfl (by decide)))⟩⟩, ⟨trivial, hb44⟩, ⟨trivial, trivial⟩, trivial⟩ fun a w48 hA H hG => ?_
  refine list_end ?_
  refine hK35 _ _ ?_
  refine go_ret_ ?_
  refine ret_one 0 (.bool (decide (([0, 2] : List Int) = ([0, 2] : List Int)))) hA ?_
  exact ans_b' (by decide +kernel) H.below

set_option maxRecDepth 100000 in
set_option maxHeartbeats 1000000 in
theorem smallB_any (n : Int) (ve : Value) (E : List (Int × Int)) (vv vl : Value) (V L : List Int) (w : World) (hn : -9223372036854775808 ≤ n ∧ n ≤ 9223372036854775807) (hE : Rd (· < w.heap.size) w ve E) (hV : Rd (· < w.heap.size) w vv V) (hL : Rd (· < w.heap.size) w vl L) :
  Calls Try.prog 46 [.agg #[.int .i64 n, ve], .agg #[vv, vl]].toArray w (Ans (.bool (((decide ((smallI n E V L) = 1)) && (decide ((L.length : Int) ≤ 20))) && (decide ((V.length : Int) ≤ 20)))) w) := by
  refine enter Try.f46 21 Try.func46 fun a hA => ?_
  replace hA := env_sub [(0, .agg #[.int .i64 n, ve]), (1, .agg #[vv, vl])] hA
  have H := Fr.start (org w)
  refine go_seq fun K1 hK1 => ?_
  refine region_list ?_
  refine list_at 0 ?_; refine q_box 0 2 24 (.tmp 0) (.agg #[.int .i64 n, ve]) [.int .i64 n, ve] [(1, .agg #[vv, vl])] hA H fun b2 a w3 H hA hG hge_b2 => ?_
  clear hge_b2
  refine list_at 1 ?_; refine q_box 1 3 29 (.tmp 1) (.agg #[vv, vl]) [vv, vl] [(2, .pointer (some ⟨b2, 0, none⟩))] hA H fun b4 a w5 H hA hG hge_b4 => ?_
  clear hge_b4
  refine q_list 2 1 [] [(2, .pointer (some ⟨b2, 0, none⟩)), (3, .pointer (some ⟨b4, 0, none⟩))] ((True) ∧ True) hA H ⟨trivial, trivial⟩ fun a w6 hA H hG => ?_
  refine list_end ?_
  refine hK1 _ _ ?_
  refine go_seq fun K7 hK7 => ?_
  refine q_reg [(5, .agg #[.int .i64 n, ve]), (6, .agg #[vv, vl]), (7, .int .i64 (smallI n E V L)), (11, vl), (12, .int .i64 (L.length : Int)), (17, vv), (18, .int .i64 (V.length : Int))] [(4, .bool (((decide (smallI n E V L = 1)) && (decide ((L.length : Int) ≤ 20))) && (decide ((V.length : Int) ≤ 20))))] (((Try.prog.info? 24).isSome = true ∧ RowOk (On w6) b2 (0) (Try.prog.cellsOf 24) #[.int .i64 n, ve]) ∧ ((Try.prog.info? 29).isSome = true ∧ RowOk (On w6) b4 (0) (Try.prog.cellsOf 29) #[vv, vl]) ∧ (Callable Try.prog 18 ∧ CallOk Try.prog (On w6) 18 [.agg #[.int .i64 n, ve], .agg #[vv, vl]].toArray (.int .i64 (smallI n E V L))) ∧ (True) ∧ (True) ∧ ((decide (smallI n E V L = 1)) = true → 0 < Try.prog.cellsOf 27) ∧ ((decide (smallI n E V L = 1)) = true → CellOk (On w6) b4 (0 + 1) (vl)) ∧ ((decide (smallI n E V L = 1)) = true → LenOk vl (L.length : Int)) ∧ ((decide (smallI n E V L = 1)) = true → True) ∧ (True) ∧ (True) ∧ (((decide (smallI n E V L = 1)) && (decide ((L.length : Int) ≤ 20))) = true → 0 < Try.prog.cellsOf 27) ∧ (((decide (smallI n E V L = 1)) && (decide ((L.length : Int) ≤ 20))) = true → CellOk (On w6) b4 (0 + 0) (vv)) ∧ (((decide (smallI n E V L = 1)) && (decide ((L.length : Int) ≤ 20))) = true → LenOk vv (V.length : Int)) ∧ (((decide (smallI n E V L = 1)) && (decide ((L.length : Int) ≤ 20))) = true → True) ∧ (True) ∧ (True) ∧ True) hA H ⟨⟨by kernel_rfl, by exact box_row H 1 rfl 0 2⟩, ⟨by kernel_rfl, by exact box_row H 0 rfl 0 2⟩, ⟨callable_of, callOk_of fun w hw => by exact small_any n ve E vv vl V L w (by omega) (((H.on hw).arg hE)) (((H.on hw).arg hV)) (((H.on hw).arg hL))⟩, trivial, trivial, fun _ => by decide +kernel, fun _ => by exact box_cell H 0 rfl 1, fun _ => by exact len_ok (H.arg hL), fun _ => trivial, trivial, trivial, fun _ => by decide +kernel, fun _ => by exact box_cell H 0 rfl 0, fun _ => by exact len_ok (H.arg hV), fun _ => trivial, trivial, trivial, trivial⟩ fun a w8 hA H hG => ?_
  refine hK7 _ _ ?_
  refine go_ret_ ?_
  refine ret_one 4 (.bool (((decide (smallI n E V L = 1)) && (decide ((L.length : Int) ≤ 20))) && (decide ((V.length : Int) ≤ 20)))) hA ?_
  exact ans_b' rfl H.below

end Go.Proofs.Ytahonnlgkmimlaa

set_option linter.unusedSimpArgs false
set_option linter.unusedVariables false
namespace Go.Proofs.Ytahonnlgkmimlaa
open Go.RowKit

set_option maxRecDepth 100000 in
set_option maxHeartbeats 8000000 in
theorem blockOnce_any (n : Int) (ve : Value) (E : List (Int × Int)) (vv vl : Value) (V L : List Int) (w : World) (hn : -9223372036854775808 ≤ n ∧ n ≤ 9223372036854775807) (hE : Rd (· < w.heap.size) w ve E) (hV : Rd (· < w.heap.size) w vv V) (hL : Rd (· < w.heap.size) w vl L) :
  Calls Try.prog 9 [.agg #[.int .i64 n, ve], .agg #[vv, vl]].toArray w (Ans (.bool true) w) := by
  refine enter Try.f9 115 Try.func9 fun a hA => ?_
  replace hA := env_sub [(0, .agg #[.int .i64 n, ve]), (1, .agg #[vv, vl])] hA
  have H := Fr.start (org w)
  refine go_seq fun K1 hK1 => ?_
  refine region_list ?_
  refine list_at 0 ?_; refine q_box 0 2 24 (.tmp 0) (.agg #[.int .i64 n, ve]) [.int .i64 n, ve] [(1, .agg #[vv, vl])] hA H fun b2 a w3 H hA hG hge_b2 => ?_
  clear hge_b2
  refine list_at 1 ?_; refine q_box 1 3 29 (.tmp 1) (.agg #[vv, vl]) [vv, vl] [(2, .pointer (some ⟨b2, 0, none⟩))] hA H fun b4 a w5 H hA hG hge_b4 => ?_
  clear hge_b4
  refine q_list 2 1 [] [(2, .pointer (some ⟨b2, 0, none⟩)), (3, .pointer (some ⟨b4, 0, none⟩))] ((True) ∧ True) hA H ⟨trivial, trivial⟩ fun a w6 hA H hG => ?_
  refine list_end ?_
  refine hK1 _ _ ?_
  refine go_seq fun K7 hK7 => ?_
  refine go_seq fun K8 hK8 => ?_
  refine q_reg [(13, .bool true), (16, .agg #[.int .i64 n, ve]), (17, .agg #[vv, vl]), (18, .bool (((decide ((smallI n E V L) = 1)) && (decide ((L.length : Int) ≤ 20))) && (decide ((V.length : Int) ≤ 20))))] [(2, .pointer (some ⟨b2, 0, none⟩)), (3, .pointer (some ⟨b4, 0, none⟩)), (20, .bool (!(((decide ((smallI n E V L) = 1)) && (decide ((L.length : Int) ≤ 20))) && (decide ((V.length : Int) ≤ 20)))))] ((Callable Try.prog 45 ∧ CallOk Try.prog (On w6) 45 [].toArray (.bool true)) ∧ (True) ∧ (True) ∧ ((false) = false → (Try.prog.info? 24).isSome = true ∧ RowOk (On w6) b2 (0) (Try.prog.cellsOf 24) #[.int .i64 n, ve]) ∧ ((false) = false → (Try.prog.info? 29).isSome = true ∧ RowOk (On w6) b4 (0) (Try.prog.cellsOf 29) #[vv, vl]) ∧ ((false) = false → Callable Try.prog 46 ∧ CallOk Try.prog (On w6) 46 [.agg #[.int .i64 n, ve], .agg #[vv, vl]].toArray (.bool (((decide ((smallI n E V L) = 1)) && (decide ((L.length : Int) ≤ 20))) && (decide ((V.length : Int) ≤ 20))))) ∧ ((false) = false → True) ∧ (True) ∧ True) hA H ⟨⟨callable_of, callOk_of fun w hw => by exact awakeB_any w⟩, trivial, trivial, fun _ => ⟨by kernel_rfl, by exact box_row H 1 rfl 0 2⟩, fun _ => ⟨by kernel_rfl, by exact box_row H 0 rfl 0 2⟩, fun hg0 => by replace hg0 := hg0; exact ⟨callable_of, callOk_of fun w hw => by exact smallB_any n ve E vv vl V L w (by omega) (((H.on hw).arg hE)) (((H.on hw).arg hV)) (((H.on hw).arg hL))⟩, fun _ => trivial, trivial, trivial⟩ fun a w9 hA H hG => ?_
  refine hK8 _ _ ?_
  refine go_cond hA (.tmp 20) (!(((decide ((smallI n E V L) = 1)) && (decide ((L.length : Int) ≤ 20))) && (decide ((V.length : Int) ≤ 20)))) (fun hb10 => ?_) (fun hb10 => ?_)
  · have hhb10 := (aF (nT hb10)).imp (fun h => (aF h).imp (fun h => of_decide_eq_false h) (fun h => of_decide_eq_false h)) (fun h => of_decide_eq_false h)
    refine go_seq fun K11 hK11 => ?_
    refine q_reg [(21, .bool true)] [(4, .bool true)] ((Callable Try.prog 45 ∧ CallOk Try.prog (On w9) 45 [].toArray (.bool true)) ∧ (True) ∧ True) hA H ⟨⟨callable_of, callOk_of fun w hw => by exact awakeB_any w⟩, trivial, trivial⟩ fun a w12 hA H hG => ?_
    refine hK11 _ _ ?_
    refine go_ret_ ?_
    refine ret_one 4 (.bool true) hA ?_
    exact ans_b' rfl H.below
  · have hhb10 := (⟨(⟨of_decide_eq_true ((aT ((aT (nF hb10)).1)).1), of_decide_eq_true ((aT ((aT (nF hb10)).1)).2)⟩ : _ ∧ _), of_decide_eq_true ((aT (nF hb10)).2)⟩ : _ ∧ _)
    refine go_skip ?_
    refine hK7 _ _ ?_
    refine go_seq fun K13 hK13 => ?_
    refine region_list ?_
    refine q_list 0 2 [(23, .agg #[.int .i64 n, ve]), (24, .agg #[vv, vl])] [(2, .pointer (some ⟨b2, 0, none⟩)), (3, .pointer (some ⟨b4, 0, none⟩)), (23, .agg #[.int .i64 n, ve]), (24, .agg #[vv, vl])] (((Try.prog.info? 24).isSome = true ∧ RowOk (On w9) b2 (0) (Try.prog.cellsOf 24) #[.int .i64 n, ve]) ∧ ((Try.prog.info? 29).isSome = true ∧ RowOk (On w9) b4 (0) (Try.prog.cellsOf 29) #[vv, vl]) ∧ True) hA H ⟨⟨by kernel_rfl, by exact box_row H 1 rfl 0 2⟩, ⟨by kernel_rfl, by exact box_row H 0 rfl 0 2⟩, trivial⟩ fun a w14 hA H hG => ?_
    refine list_at 2 ?_; refine q_call 2 25 47 #[.tmp 23, .tmp 24] #[24, 29] [.agg #[.int .i64 n, ve], .agg #[vv, vl]] (fun S v_ w' => ∃ p_, v_ = .tuple #[p_, .int .i64 (partE n E V L)] ∧ Rd S w' p_ ((blocksE n E V L))) [(2, .pointer (some ⟨b2, 0, none⟩)), (3, .pointer (some ⟨b4, 0, none⟩))] hA H (by exact blocks_any n ve E vv vl V L H.at (by omega) ((H.arg hE)) ((H.arg hV)) ((H.arg hL))) fun v15 a w16 S hR17 H hA hG => ?_
    obtain ⟨v15p, rfl, hR17p⟩ := hR17
    replace H := H.ro hR17p
    replace H : Fr _ _ _ [.ro v15p (blocksE n E V L), .box b4 29 [vv, vl], .box b2 24 [.int .i64 n, ve]] := H
    refine q_list 3 5 [] [(2, .pointer (some ⟨b2, 0, none⟩)), (3, .pointer (some ⟨b4, 0, none⟩)), (5, v15p), (6, .int .i64 (partE n E V L))] ((True) ∧ (True) ∧ (True) ∧ (True) ∧ (True) ∧ True) hA H ⟨trivial, trivial, trivial, trivial, trivial, trivial⟩ fun a w19 hA H hG => ?_
    refine list_end ?_
    refine hK13 _ _ ?_
    refine go_seq fun K20 hK20 => ?_
    refine region_list ?_
    refine q_list 0 2 [(29, .agg #[.int .i64 n, ve]), (30, .agg #[vv, vl])] [(3, .pointer (some ⟨b4, 0, none⟩)), (5, v15p), (6, .int .i64 (partE n E V L)), (29, .agg #[.int .i64 n, ve]), (30, .agg #[vv, vl])] (((Try.prog.info? 24).isSome = true ∧ RowOk (On w19) b2 (0) (Try.prog.cellsOf 24) #[.int .i64 n, ve]) ∧ ((Try.prog.info? 29).isSome = true ∧ RowOk (On w19) b4 (0) (Try.prog.cellsOf 29) #[vv, vl]) ∧ True) hA H ⟨⟨by kernel_rfl, by exact box_row H 2 rfl 0 2⟩, ⟨by kernel_rfl, by exact box_row H 1 rfl 0 2⟩, trivial⟩ fun a w21 hA H hG => ?_
    refine list_at 2 ?_; refine q_call 2 31 48 #[.tmp 29, .tmp 30] #[24, 29] [.agg #[.int .i64 n, ve], .agg #[vv, vl]] (fun S v_ w' => ∃ p_, v_ = .tuple #[p_, .int .i64 (partE n E V L)] ∧ Rd S w' p_ ((cutsE n E V L))) [(3, .pointer (some ⟨b4, 0, none⟩)), (5, v15p), (6, .int .i64 (partE n E V L))] hA H (by exact cuts_any n ve E vv vl V L H.at (by omega) ((H.arg hE)) ((H.arg hV)) ((H.arg hL))) fun v22 a w23 S hR24 H hA hG => ?_
    obtain ⟨v22p, rfl, hR24p⟩ := hR24
    replace H := H.ro hR24p
    replace H : Fr _ _ _ [.ro v22p (cutsE n E V L), .ro v15p (blocksE n E V L), .box b4 29 [vv, vl], .box b2 24 [.int .i64 n, ve]] := H
    refine q_list 3 5 [] [(3, .pointer (some ⟨b4, 0, none⟩)), (5, v15p), (6, .int .i64 (partE n E V L)), (7, v22p), (8, .int .i64 (partE n E V L))] ((True) ∧ (True) ∧ (True) ∧ (True) ∧ (True) ∧ True) hA H ⟨trivial, trivial, trivial, trivial, trivial, trivial⟩ fun a w26 hA H hG => ?_
    refine list_end ?_
    refine hK20 _ _ ?_
    refine go_seq fun K27 hK27 => ?_
    refine go_seq fun K28 hK28 => ?_
    refine q_reg [] [(3, .pointer (some ⟨b4, 0, none⟩)), (5, v15p), (6, .int .i64 (partE n E V L)), (7, v22p), (8, .int .i64 (partE n E V L)), (35, .bool (!decide (partE n E V L = 0)))] ((True) ∧ (True) ∧ True) hA H ⟨trivial, trivial, trivial⟩ fun a w29 hA H hG => ?_
    refine hK28 _ _ ?_
    refine go_cond hA (.tmp 35) (!decide (partE n E V L = 0)) (fun hb30 => ?_) (fun hb30 => ?_)
    · have hhb30 := of_decide_eq_false (nT hb30)
      refine go_seq fun K31 hK31 => ?_
      refine q_reg [(41, .int .i64 ((blocksE n E V L).length : Int)), (46, .int .i64 ((cutsE n E V L).length : Int))] [(4, .bool (((decide (partE n E V L = partE n E V L)) && (decide (((blocksE n E V L).length : Int) = 0))) && (decide (((cutsE n E V L).length : Int) = 0))))] ((True) ∧ (True) ∧ (True) ∧ (True) ∧ ((decide (partE n E V L = partE n E V L)) = true → True) ∧ ((decide (partE n E V L = partE n E V L)) = true → LenOk v15p ((blocksE n E V L).length : Int)) ∧ ((decide (partE n E V L = partE n E V L)) = true → True) ∧ (True) ∧ (True) ∧ (((decide (partE n E V L = partE n E V L)) && (decide (((blocksE n E V L).length : Int) = 0))) = true → True) ∧ (((decide (partE n E V L = partE n E V L)) && (decide (((blocksE n E V L).length : Int) = 0))) = true → LenOk v22p ((cutsE n E V L).length : Int)) ∧ (((decide (partE n E V L = partE n E V L)) && (decide (((blocksE n E V L).length : Int) = 0))) = true → True) ∧ (True) ∧ (True) ∧ True) hA H ⟨trivial, trivial, trivial, trivial, fun _ => trivial, fun _ => by exact len_ok (H.get 1 rfl), fun _ => trivial, trivial, trivial, fun _ => trivial, fun _ => by exact len_ok (H.get 0 rfl), fun _ => trivial, trivial, trivial, trivial⟩ fun a w32 hA H hG => ?_
      refine hK31 _ _ ?_
      refine go_ret_ ?_
      refine ret_one 4 (.bool (((decide (partE n E V L = partE n E V L)) && (decide (((blocksE n E V L).length : Int) = 0))) && (decide (((cutsE n E V L).length : Int) = 0)))) hA ?_
      exact ans_b' (by unfold blocksE cutsE; rw [if_pos hhb30, if_pos hhb30]; simp) H.below
    · have hhb30 := of_decide_eq_true (nF hb30)
      refine go_skip ?_
      refine hK27 _ _ ?_
      refine go_seq fun K33 hK33 => ?_
      have hpt : partE n E V L = 0 := by omega
      have hbe : blocksE n E V L = blocksL n E V L := by unfold blocksE; rw [if_neg (by omega)]
      have hr9 := rightE_0 (part_iff.1 hpt).1
      have hbl9 := blocks_len n E V L
      have hl9 := rises_len (part_iff.1 hpt).2.2.1 (by omega)
      have hv9 := rises_len (part_iff.1 hpt).2.1 (by omega)
      simp only [hbe] at H
      have hce : cutsE n E V L = cutsL V (blocksL n E V L) := by unfold cutsE; rw [if_neg (by omega)]
      simp only [hce] at H
      refine q_reg [] [(3, .pointer (some ⟨b4, 0, none⟩)), (5, v15p), (7, v22p), (9, .int .i64 0)] ((True) ∧ True) hA H ⟨trivial, trivial⟩ fun a w34 hA H hG => ?_
      refine hK33 _ _ ?_
      refine go_seq fun K35 hK35 => ?_
      refine go_seq fun K36 hK36 => ?_
      refine q_reg [] [(3, .pointer (some ⟨b4, 0, none⟩)), (5, v15p), (7, v22p), (9, .int .i64 0), (10, .int .i64 0)] ((True) ∧ True) hA H ⟨trivial, trivial⟩ fun a w37 hA H hG => ?_
      refine hK36 _ _ ?_
      refine go_block 0 ?_
      refine go_loop_ (Int × Int) (fun x_ a W => (fun (i : Int) (q : Int) => EnvOk 115 a (keepEnv [(3, .pointer (some ⟨b4, 0, none⟩)), (5, v15p), (7, v22p), (9, .int .i64 q), (10, .int .i64 i)]) ∧ (∃ S, Fr (org w) W S [.ro v22p (cutsL V (blocksL n E V L)), .ro v15p (blocksL n E V L), .box b4 29 [vv, vl], .box b2 24 [.int .i64 n, ve]]) ∧ 0 ≤ i ∧ i ≤ ((blocksL n E V L).length : Int) ∧ q = sumI ((blocksL n E V L).take i.toNat)) x_.1 x_.2) (fun x_ => (fun (i : Int) (q : Int) => (((blocksL n E V L).length : Int) - i).toNat) x_.1 x_.2) (0, 0) ?_ (fun x_ a w39 hI => ?_)
      · (try dsimp only); exact ⟨env_sub _ hA, ⟨_, H⟩, by omega, by omega, by simp [sumI]⟩
      obtain ⟨i, q⟩ := x_
      obtain ⟨hA, ⟨S, H⟩, h0, h0b, hq⟩ := hI
      try dsimp only at h0 h0b hq
      replace H : Fr _ _ _ [.ro v22p (cutsL V (blocksL n E V L)), .ro v15p (blocksL n E V L), .box b4 29 [vv, vl], .box b2 24 [.int .i64 n, ve]] := H
      have hq9 := sumI_le hpt i.toNat; rw [← hq] at hq9
      refine go_seq fun K40 hK40 => ?_
      refine go_seq fun K41 hK41 => ?_
      refine q_reg [(51, .int .i64 ((blocksL n E V L).length : Int))] [(3, .pointer (some ⟨b4, 0, none⟩)), (5, v15p), (7, v22p), (9, .int .i64 q), (10, .int .i64 i), (52, .bool (decide (i < ((blocksL n E V L).length : Int))))] ((True) ∧ (True) ∧ (LenOk v15p ((blocksL n E V L).length : Int)) ∧ (True) ∧ True) hA H ⟨trivial, trivial, by exact len_ok (H.get 1 rfl), trivial, trivial⟩ fun a w42 hA H hG => ?_
      refine hK41 _ _ ?_
      refine go_cond hA (.tmp 52) (decide (i < ((blocksL n E V L).length : Int))) (fun hb43 => ?_) (fun hb43 => ?_)
      · have hhb43 := of_decide_eq_true hb43
        refine go_skip ?_
        refine hK40 _ _ ?_
        refine go_seq fun K44 hK44 => ?_
        refine go_block 1 ?_
        refine go_seq fun K45 hK45 => ?_
        have hbm := getD_mem (l := blocksL n E V L) (i := i.toNat) (d := ([], [])) (by omega)
        obtain ⟨q1, q2, q3, q4⟩ := block_rises hpt hbm
        have q5 := rises_len q1 (by omega); have q6 := rises_len q2 (by omega)
        obtain ⟨ea46, eb47, hea46c, hea46a, hea46b⟩ := cell_twoC (C := On w42) H.keepsS (H.getS 1 rfl) i
        replace H := (H.ro (hea46a (by omega) (by omega))).sink 1 4
        replace H := (H.ro (hea46b (by omega) (by omega))).sink 1 5
        replace H : Fr _ _ _ [.ro v22p (cutsL V (blocksL n E V L)), .ro v15p (blocksL n E V L), .box b4 29 [vv, vl], .box b2 24 [.int .i64 n, ve], .ro ea46 ((blocksL n E V L).getD i.toNat ([], [])).1, .ro eb47 ((blocksL n E V L).getD i.toNat ([], [])).2] := H
        refine q_reg [(60, eb47), (61, .int .i64 ((((blocksL n E V L).getD i.toNat ([], [])).2).length : Int))] [(3, .pointer (some ⟨b4, 0, none⟩)), (5, v15p), (7, v22p), (9, .int .i64 (q + ((((blocksL n E V L).getD i.toNat ([], [])).2).length : Int))), (10, .int .i64 i)] ((True) ∧ (True) ∧ (True) ∧ ((Try.prog.info? 29).isSome = true ∧ IdxOk v15p i) ∧ (0 < Try.prog.cellsOf 27) ∧ (CellOk (On w42) (hdB v15p) (hdO v15p + i.toNat * 2 + 1) (eb47)) ∧ (LenOk eb47 ((((blocksL n E V L).getD i.toNat ([], [])).2).length : Int)) ∧ (InR .i64 (q + ((((blocksL n E V L).getD i.toNat ([], [])).2).length : Int))) ∧ (True) ∧ True) hA H ⟨trivial, trivial, trivial, ⟨by kernel_rfl, by exact idx_ok (H.get 1 rfl) (by omega) (by omega)⟩, by decide +kernel, by exact row_cellC (hea46c (by omega) (by omega)) 1, by exact len_ok (H.get 5 rfl), ⟨by omega, by omega⟩, trivial, trivial⟩ fun a w48 hA H hG => ?_
        refine hK45 _ _ ?_
        refine go_seq fun K49 hK49 => ?_
        refine q_reg [] [(3, .pointer (some ⟨b4, 0, none⟩)), (5, v15p), (7, v22p), (9, .int .i64 (q + ((((blocksL n E V L).getD i.toNat ([], [])).2).length : Int))), (10, .int .i64 i), (11, .int .i64 0)] ((True) ∧ True) hA H ⟨trivial, trivial⟩ fun a w50 hA H hG => ?_
        refine hK49 _ _ ?_
        refine go_block 2 ?_
        refine go_loop_ (Int) (fun x_ a W => (fun (k : Int) => EnvOk 115 a (keepEnv [(3, .pointer (some ⟨b4, 0, none⟩)), (5, v15p), (7, v22p), (9, .int .i64 (q + ((((blocksL n E V L).getD i.toNat ([], [])).2).length : Int))), (10, .int .i64 i), (11, .int .i64 k)]) ∧ (∃ S, Fr (org w) W S [.ro v22p (cutsL V (blocksL n E V L)), .ro v15p (blocksL n E V L), .box b4 29 [vv, vl], .box b2 24 [.int .i64 n, ve], .ro ea46 ((blocksL n E V L).getD i.toNat ([], [])).1, .ro eb47 ((blocksL n E V L).getD i.toNat ([], [])).2]) ∧ 0 ≤ k ∧ k ≤ i) x_) (fun x_ => (fun (k : Int) => (i - k).toNat) x_) (0) ?_ (fun k a w52 hI => ?_)
        · (try dsimp only); exact ⟨env_sub _ hA, ⟨_, H⟩, by omega, by omega⟩
        obtain ⟨hA, ⟨S, H⟩, k0, k0b⟩ := hI
        try dsimp only at k0 k0b
        refine go_seq fun K53 hK53 => ?_
        refine go_seq fun K54 hK54 => ?_
        refine q_reg [] [(3, .pointer (some ⟨b4, 0, none⟩)), (5, v15p), (7, v22p), (9, .int .i64 (q + ((((blocksL n E V L).getD i.toNat ([], [])).2).length : Int))), (10, .int .i64 i), (11, .int .i64 k), (65, .bool (decide (k < i)))] ((True) ∧ (True) ∧ (True) ∧ True) hA H ⟨trivial, trivial, trivial, trivial⟩ fun a w55 hA H hG => ?_
        refine hK54 _ _ ?_
        refine go_cond hA (.tmp 65) (decide (k < i)) (fun hb56 => ?_) (fun hb56 => ?_)
        · have hhb56 := of_decide_eq_true hb56
          refine go_skip ?_
          refine hK53 _ _ ?_
          refine go_seq fun K57 hK57 => ?_
          refine go_block 3 ?_
          refine go_seq fun K58 hK58 => ?_
          have hbmk := getD_mem (l := blocksL n E V L) (i := k.toNat) (d := ([], [])) (by omega)
          obtain ⟨q1k, q2k, q3k, q4k⟩ := block_rises hpt hbmk
          have q5k := rises_len q1k (by omega); have q6k := rises_len q2k (by omega)
          have H0 := H
          have hM0 := H0.keeps none (.inl rfl)
          refine region_mix (But w55 none) [0, 1, 2, 3, 4, 5, 6, 7, 8, 9, 10] 12 ?_
          replace H := H.drawn; have hD := But.drew w55 none
          generalize ({ w55 with drawn := w55.drawn + 1 } : World) = w59 at H hD ⊢
          obtain ⟨ea60, eb61, hea60c, hea60a, hea60b⟩ := cell_twoC (C := But w55 none) (keepsS2 hM0) (H0.getS 1 rfl) i
          replace H := (H.ro (Rd.keep (keepsS2 hM0 _ hD) (hea60a (by omega) (by omega)))).sink 1 6
          replace H := (H.ro (Rd.keep (keepsS2 hM0 _ hD) (hea60b (by omega) (by omega)))).sink 1 7
          replace H : Fr _ _ _ [.ro v22p (cutsL V (blocksL n E V L)), .ro v15p (blocksL n E V L), .box b4 29 [vv, vl], .box b2 24 [.int .i64 n, ve], .ro ea46 ((blocksL n E V L).getD i.toNat ([], [])).1, .ro eb47 ((blocksL n E V L).getD i.toNat ([], [])).2, .ro ea60 ((blocksL n E V L).getD i.toNat ([], [])).1, .ro eb61 ((blocksL n E V L).getD i.toNat ([], [])).2] := H
          obtain ⟨ea62, eb63, hea62c, hea62a, hea62b⟩ := cell_twoC (C := But w55 none) (keepsS2 hM0) (H0.getS 1 rfl) k
          replace H := (H.ro (Rd.keep (keepsS2 hM0 _ hD) (hea62a (by omega) (by omega)))).sink 1 8
          replace H := (H.ro (Rd.keep (keepsS2 hM0 _ hD) (hea62b (by omega) (by omega)))).sink 1 9
          replace H : Fr _ _ _ [.ro v22p (cutsL V (blocksL n E V L)), .ro v15p (blocksL n E V L), .box b4 29 [vv, vl], .box b2 24 [.int .i64 n, ve], .ro ea46 ((blocksL n E V L).getD i.toNat ([], [])).1, .ro eb47 ((blocksL n E V L).getD i.toNat ([], [])).2, .ro ea60 ((blocksL n E V L).getD i.toNat ([], [])).1, .ro eb61 ((blocksL n E V L).getD i.toNat ([], [])).2, .ro ea62 ((blocksL n E V L).getD k.toNat ([], [])).1, .ro eb63 ((blocksL n E V L).getD k.toNat ([], [])).2] := H
          refine m_take (n := 2) [0, 1, 2, 3, 4, 5, 6, 7, 8, 9] #[true, true, true, true, true, true, true, true, true, true, false, false] [(72, ea60), (77, ea62)] [(3, .pointer (some ⟨b4, 0, none⟩)), (5, v15p), (7, v22p), (9, .int .i64 (q + ((((blocksL n E V L).getD i.toNat ([], [])).2).length : Int))), (10, .int .i64 i), (11, .int .i64 k), (72, ea60), (77, ea62)] ((True) ∧ (True) ∧ ((Try.prog.info? 29).isSome = true ∧ IdxOk v15p i) ∧ (0 < Try.prog.cellsOf 27) ∧ (CellOk (But w55 none) (hdB v15p) (hdO v15p + i.toNat * 2 + 0) (ea60)) ∧ (True) ∧ (True) ∧ ((Try.prog.info? 29).isSome = true ∧ IdxOk v15p k) ∧ (0 < Try.prog.cellsOf 27) ∧ (CellOk (But w55 none) (hdB v15p) (hdO v15p + k.toNat * 2 + 0) (ea62)) ∧ True) hA hD ⟨trivial, trivial, ⟨by kernel_rfl, by exact idx_ok (H0.getT 1 rfl) (by omega) (by omega)⟩, by decide +kernel, by exact row_cellC (hea60c (by omega) (by omega)) 0, trivial, trivial, ⟨by kernel_rfl, by exact idx_ok (H0.getT 1 rfl) (by omega) (by omega)⟩, by decide +kernel, by exact row_cellC (hea62c (by omega) (by omega)) 0, trivial⟩ fun a hA => ?_
          refine m_one 10 ?_; refine q_call 10 78 43 #[.tmp 72, .tmp 77] #[27, 27] [ea60, ea62] (fun S v_ w' => Rd S w' v_ (andL (((blocksL n E V L).getD i.toNat ([], [])).1) (((blocksL n E V L).getD k.toNat ([], [])).1))) [(3, .pointer (some ⟨b4, 0, none⟩)), (5, v15p), (7, v22p), (9, .int .i64 (q + ((((blocksL n E V L).getD i.toNat ([], [])).2).length : Int))), (10, .int .i64 i), (11, .int .i64 k)] hA H (by exact rand_any ea60 ea62 (((blocksL n E V L).getD i.toNat ([], [])).1) (((blocksL n E V L).getD k.toNat ([], [])).1) H.at ((H.get 6 rfl)) ((H.get 8 rfl)) (by omega)) fun v64 a w65 S hR66 H hA hG => ?_
          replace H := H.ro hR66
          replace hD := hD.below hG
          refine ⟨fun _ => hD, ?_⟩
          refine m_one 11 ?_; refine q_one 11 [] [(3, .pointer (some ⟨b4, 0, none⟩)), (5, v15p), (7, v22p), (9, .int .i64 (q + ((((blocksL n E V L).getD i.toNat ([], [])).2).length : Int))), (10, .int .i64 i), (11, .int .i64 k), (12, v64)] ((True) ∧ True) hA H ⟨trivial, trivial⟩ fun a w68 H hA hG => ?_
          refine ⟨fun h => absurd h (by decide), ?_⟩
          refine m_end ?_
          refine hK58 _ _ ?_
          refine go_seq fun K69 hK69 => ?_
          have H0 := H
          have hM0 := H0.keeps none (.inl rfl)
          refine region_mix (But w68 none) [0, 1, 2, 3, 4, 5, 6, 7, 8, 9, 10, 11, 12, 13, 14, 15, 16, 17, 18, 19, 20, 21, 22, 23, 24, 25, 26, 27, 28, 29, 30] 31 ?_
          replace H := H.drawn; have hD := But.drew w68 none
          generalize ({ w68 with drawn := w68.drawn + 1 } : World) = w70 at H hD ⊢
          obtain ⟨ea71, eb72, hea71c, hea71a, hea71b⟩ := cell_twoC (C := But w68 none) (keepsS2 hM0) (H0.getS 2 rfl) i
          replace H := (H.ro (Rd.keep (keepsS2 hM0 _ hD) (hea71a (by omega) (by omega)))).sink 1 11
          replace H := (H.ro (Rd.keep (keepsS2 hM0 _ hD) (hea71b (by omega) (by omega)))).sink 1 12
          replace H : Fr _ _ _ [.ro v64 (andL (((blocksL n E V L).getD i.toNat ([], [])).1) (((blocksL n E V L).getD k.toNat ([], [])).1)), .ro v22p (cutsL V (blocksL n E V L)), .ro v15p (blocksL n E V L), .box b4 29 [vv, vl], .box b2 24 [.int .i64 n, ve], .ro ea46 ((blocksL n E V L).getD i.toNat ([], [])).1, .ro eb47 ((blocksL n E V L).getD i.toNat ([], [])).2, .ro ea60 ((blocksL n E V L).getD i.toNat ([], [])).1, .ro eb61 ((blocksL n E V L).getD i.toNat ([], [])).2, .ro ea62 ((blocksL n E V L).getD k.toNat ([], [])).1, .ro eb63 ((blocksL n E V L).getD k.toNat ([], [])).2, .ro ea71 ((blocksL n E V L).getD i.toNat ([], [])).1, .ro eb72 ((blocksL n E V L).getD i.toNat ([], [])).2] := H
          obtain ⟨ea73, eb74, hea73c, hea73a, hea73b⟩ := cell_twoC (C := But w68 none) (keepsS2 hM0) (H0.getS 2 rfl) k
          replace H := (H.ro (Rd.keep (keepsS2 hM0 _ hD) (hea73a (by omega) (by omega)))).sink 1 13
          replace H := (H.ro (Rd.keep (keepsS2 hM0 _ hD) (hea73b (by omega) (by omega)))).sink 1 14
          replace H : Fr _ _ _ [.ro v64 (andL (((blocksL n E V L).getD i.toNat ([], [])).1) (((blocksL n E V L).getD k.toNat ([], [])).1)), .ro v22p (cutsL V (blocksL n E V L)), .ro v15p (blocksL n E V L), .box b4 29 [vv, vl], .box b2 24 [.int .i64 n, ve], .ro ea46 ((blocksL n E V L).getD i.toNat ([], [])).1, .ro eb47 ((blocksL n E V L).getD i.toNat ([], [])).2, .ro ea60 ((blocksL n E V L).getD i.toNat ([], [])).1, .ro eb61 ((blocksL n E V L).getD i.toNat ([], [])).2, .ro ea62 ((blocksL n E V L).getD k.toNat ([], [])).1, .ro eb63 ((blocksL n E V L).getD k.toNat ([], [])).2, .ro ea71 ((blocksL n E V L).getD i.toNat ([], [])).1, .ro eb72 ((blocksL n E V L).getD i.toNat ([], [])).2, .ro ea73 ((blocksL n E V L).getD k.toNat ([], [])).1, .ro eb74 ((blocksL n E V L).getD k.toNat ([], [])).2] := H
          refine m_take (n := 21) [0, 1, 2, 3, 4, 5, 6, 7, 8, 9] #[true, true, true, true, true, true, true, true, true, true, false, false, false, false, false, false, false, false, false, false, false, false, false, false, false, false, false, false, false, false, false] [(83, eb72), (88, eb74)] [(3, .pointer (some ⟨b4, 0, none⟩)), (5, v15p), (7, v22p), (9, .int .i64 (q + ((((blocksL n E V L).getD i.toNat ([], [])).2).length : Int))), (10, .int .i64 i), (11, .int .i64 k), (12, v64), (83, eb72), (88, eb74)] ((True) ∧ (True) ∧ ((Try.prog.info? 29).isSome = true ∧ IdxOk v15p i) ∧ (0 < Try.prog.cellsOf 27) ∧ (CellOk (But w68 none) (hdB v15p) (hdO v15p + i.toNat * 2 + 1) (eb72)) ∧ (True) ∧ (True) ∧ ((Try.prog.info? 29).isSome = true ∧ IdxOk v15p k) ∧ (0 < Try.prog.cellsOf 27) ∧ (CellOk (But w68 none) (hdB v15p) (hdO v15p + k.toNat * 2 + 1) (eb74)) ∧ True) hA hD ⟨trivial, trivial, ⟨by kernel_rfl, by exact idx_ok (H0.getT 2 rfl) (by omega) (by omega)⟩, by decide +kernel, by exact row_cellC (hea71c (by omega) (by omega)) 1, trivial, trivial, ⟨by kernel_rfl, by exact idx_ok (H0.getT 2 rfl) (by omega) (by omega)⟩, by decide +kernel, by exact row_cellC (hea73c (by omega) (by omega)) 1, trivial⟩ fun a hA => ?_
          refine m_one 10 ?_; refine q_call 10 89 43 #[.tmp 83, .tmp 88] #[27, 27] [eb72, eb74] (fun S v_ w' => Rd S w' v_ (andL (((blocksL n E V L).getD i.toNat ([], [])).2) (((blocksL n E V L).getD k.toNat ([], [])).2))) [(3, .pointer (some ⟨b4, 0, none⟩)), (5, v15p), (7, v22p), (9, .int .i64 (q + ((((blocksL n E V L).getD i.toNat ([], [])).2).length : Int))), (10, .int .i64 i), (11, .int .i64 k), (12, v64)] hA H (by exact rand_any eb72 eb74 (((blocksL n E V L).getD i.toNat ([], [])).2) (((blocksL n E V L).getD k.toNat ([], [])).2) H.at ((H.get 12 rfl)) ((H.get 14 rfl)) (by omega)) fun v75 a w76 S hR77 H hA hG => ?_
          replace H := H.ro hR77
          replace hD := hD.below hG
          refine ⟨fun _ => hD, ?_⟩
          refine m_takeE (n := 4) [] [11, 12, 13, 14, 15, 16, 17, 18, 19, 20, 21, 22, 23, 24, 25, 26] #[true, true, true, true, true, true, true, true, true, true, true, true, true, true, true, true, true, true, true, true, true, true, true, true, true, true, true, false, false, false, false] [(90, .int .i64 ((andL (((blocksL n E V L).getD i.toNat ([], [])).2) (((blocksL n E V L).getD k.toNat ([], [])).2)).length : Int)), (94, .int .i64 ((andL (((blocksL n E V L).getD i.toNat ([], [])).1) (((blocksL n E V L).getD k.toNat ([], [])).1)).length : Int)), (99, .int .i64 ((andL (((blocksL n E V L).getD i.toNat ([], [])).1) (((blocksL n E V L).getD k.toNat ([], [])).1)).length : Int)), (105, .int .i64 ((andL (((blocksL n E V L).getD i.toNat ([], [])).1) (((blocksL n E V L).getD k.toNat ([], [])).1)).getD (0 : Int).toNat 0))] [⟨3, [], .pointer (some ⟨b4, 0, none⟩)⟩, ⟨5, [], v15p⟩, ⟨7, [], v22p⟩, ⟨9, [], .int .i64 (q + ((((blocksL n E V L).getD i.toNat ([], [])).2).length : Int))⟩, ⟨10, [], .int .i64 i⟩, ⟨11, [], .int .i64 k⟩, ⟨97, [], .bool ((decide ((0 : Int) < ((andL (((blocksL n E V L).getD i.toNat ([], [])).2) (((blocksL n E V L).getD k.toNat ([], [])).2)).length : Int))) || (decide ((1 : Int) < ((andL (((blocksL n E V L).getD i.toNat ([], [])).1) (((blocksL n E V L).getD k.toNat ([], [])).1)).length : Int))))⟩, ⟨101, [(97, false)], .bool (decide (((andL (((blocksL n E V L).getD i.toNat ([], [])).1) (((blocksL n E V L).getD k.toNat ([], [])).1)).length : Int) = 1))⟩, ⟨102, [(97, false), (101, true)], v22p⟩, ⟨105, [(97, false), (101, true)], .int .i64 ((andL (((blocksL n E V L).getD i.toNat ([], [])).1) (((blocksL n E V L).getD k.toNat ([], [])).1)).getD (0 : Int).toNat 0)⟩] (((True) ∧ (LenOk v75 ((andL (((blocksL n E V L).getD i.toNat ([], [])).2) (((blocksL n E V L).getD k.toNat ([], [])).2)).length : Int))) ∧ ((True) ∧ (True)) ∧ ((True) ∧ (True)) ∧ ((True) ∧ ((decide ((0 : Int) < ((andL (((blocksL n E V L).getD i.toNat ([], [])).2) (((blocksL n E V L).getD k.toNat ([], [])).2)).length : Int))) = false → True)) ∧ ((True) ∧ ((decide ((0 : Int) < ((andL (((blocksL n E V L).getD i.toNat ([], [])).2) (((blocksL n E V L).getD k.toNat ([], [])).2)).length : Int))) = false → LenOk v64 ((andL (((blocksL n E V L).getD i.toNat ([], [])).1) (((blocksL n E V L).getD k.toNat ([], [])).1)).length : Int))) ∧ ((True) ∧ ((decide ((0 : Int) < ((andL (((blocksL n E V L).getD i.toNat ([], [])).2) (((blocksL n E V L).getD k.toNat ([], [])).2)).length : Int))) = false → True)) ∧ ((True) ∧ (True)) ∧ ((True) ∧ (True)) ∧ ((True) ∧ (((decide ((0 : Int) < ((andL (((blocksL n E V L).getD i.toNat ([], [])).2) (((blocksL n E V L).getD k.toNat ([], [])).2)).length : Int))) || (decide ((1 : Int) < ((andL (((blocksL n E V L).getD i.toNat ([], [])).1) (((blocksL n E V L).getD k.toNat ([], [])).1)).length : Int)))) = false → True)) ∧ ((True) ∧ (((decide ((0 : Int) < ((andL (((blocksL n E V L).getD i.toNat ([], [])).2) (((blocksL n E V L).getD k.toNat ([], [])).2)).length : Int))) || (decide ((1 : Int) < ((andL (((blocksL n E V L).getD i.toNat ([], [])).1) (((blocksL n E V L).getD k.toNat ([], [])).1)).length : Int)))) = false → LenOk v64 ((andL (((blocksL n E V L).getD i.toNat ([], [])).1) (((blocksL n E V L).getD k.toNat ([], [])).1)).length : Int))) ∧ ((True) ∧ (((decide ((0 : Int) < ((andL (((blocksL n E V L).getD i.toNat ([], [])).2) (((blocksL n E V L).getD k.toNat ([], [])).2)).length : Int))) || (decide ((1 : Int) < ((andL (((blocksL n E V L).getD i.toNat ([], [])).1) (((blocksL n E V L).getD k.toNat ([], [])).1)).length : Int)))) = false → True)) ∧ ((True) ∧ (((decide ((0 : Int) < ((andL (((blocksL n E V L).getD i.toNat ([], [])).2) (((blocksL n E V L).getD k.toNat ([], [])).2)).length : Int))) || (decide ((1 : Int) < ((andL (((blocksL n E V L).getD i.toNat ([], [])).1) (((blocksL n E V L).getD k.toNat ([], [])).1)).length : Int)))) = false → True)) ∧ ((True) ∧ (((decide ((0 : Int) < ((andL (((blocksL n E V L).getD i.toNat ([], [])).2) (((blocksL n E V L).getD k.toNat ([], [])).2)).length : Int))) || (decide ((1 : Int) < ((andL (((blocksL n E V L).getD i.toNat ([], [])).1) (((blocksL n E V L).getD k.toNat ([], [])).1)).length : Int)))) = false → (decide (((andL (((blocksL n E V L).getD i.toNat ([], [])).1) (((blocksL n E V L).getD k.toNat ([], [])).1)).length : Int) = 1)) = true → True)) ∧ ((True) ∧ (((decide ((0 : Int) < ((andL (((blocksL n E V L).getD i.toNat ([], [])).2) (((blocksL n E V L).getD k.toNat ([], [])).2)).length : Int))) || (decide ((1 : Int) < ((andL (((blocksL n E V L).getD i.toNat ([], [])).1) (((blocksL n E V L).getD k.toNat ([], [])).1)).length : Int)))) = false → (decide (((andL (((blocksL n E V L).getD i.toNat ([], [])).1) (((blocksL n E V L).getD k.toNat ([], [])).1)).length : Int) = 1)) = true → True)) ∧ ((True) ∧ (((decide ((0 : Int) < ((andL (((blocksL n E V L).getD i.toNat ([], [])).2) (((blocksL n E V L).getD k.toNat ([], [])).2)).length : Int))) || (decide ((1 : Int) < ((andL (((blocksL n E V L).getD i.toNat ([], [])).1) (((blocksL n E V L).getD k.toNat ([], [])).1)).length : Int)))) = false → (decide (((andL (((blocksL n E V L).getD i.toNat ([], [])).1) (((blocksL n E V L).getD k.toNat ([], [])).1)).length : Int) = 1)) = true → (Try.prog.info? 3).isSome = true ∧ IdxOk v64 0)) ∧ ((True) ∧ (((decide ((0 : Int) < ((andL (((blocksL n E V L).getD i.toNat ([], [])).2) (((blocksL n E V L).getD k.toNat ([], [])).2)).length : Int))) || (decide ((1 : Int) < ((andL (((blocksL n E V L).getD i.toNat ([], [])).1) (((blocksL n E V L).getD k.toNat ([], [])).1)).length : Int)))) = false → (decide (((andL (((blocksL n E V L).getD i.toNat ([], [])).1) (((blocksL n E V L).getD k.toNat ([], [])).1)).length : Int) = 1)) = true → CellOk (But w68 none) (hdB v64) (hdO v64 + (0 : Int).toNat * 1) (.int .i64 ((andL (((blocksL n E V L).getD i.toNat ([], [])).1) (((blocksL n E V L).getD k.toNat ([], [])).1)).getD (0 : Int).toNat 0)))) ∧ True) hA hD ⟨⟨trivial, by exact len_ok (H.get 0 rfl)⟩, ⟨trivial, trivial⟩, ⟨trivial, trivial⟩, ⟨trivial, fun _ => trivial⟩, ⟨trivial, fun _ => by exact len_ok (H0.getT 0 rfl)⟩, ⟨trivial, fun _ => trivial⟩, ⟨trivial, trivial⟩, ⟨trivial, trivial⟩, ⟨trivial, fun _ => trivial⟩, ⟨trivial, fun _ => by exact len_ok (H0.getT 0 rfl)⟩, ⟨trivial, fun _ => trivial⟩, ⟨trivial, fun _ => trivial⟩, ⟨trivial, fun _ _ => trivial⟩, ⟨trivial, fun _ _ => trivial⟩, ⟨trivial, fun hg0 hg1 => by replace hg0 := (⟨of_decide_eq_false ((oF hg0).1), of_decide_eq_false ((oF hg0).2)⟩ : _ ∧ _); replace hg1 := of_decide_eq_true hg1; exact ⟨by kernel_rfl, by exact idx_ok (H0.getT 0 rfl) (by omega) (by omega)⟩⟩, ⟨trivial, fun hg0 hg1 => by replace hg0 := (⟨of_decide_eq_false ((oF hg0).1), of_decide_eq_false ((oF hg0).2)⟩ : _ ∧ _); replace hg1 := of_decide_eq_true hg1; exact by exact cell_flatC hM0 (i := (0 : Int)) (H0.getT 0 rfl) (by omega) (by omega) 0 0⟩, trivial⟩ fun a hA => ?_
          refine m_one 27 ?_; refine q_oneE [] 27 [(106, .bool (decide (((andL (((blocksL n E V L).getD i.toNat ([], [])).1) (((blocksL n E V L).getD k.toNat ([], [])).1)).getD (0 : Int).toNat 0) ∈ (cutsL V (blocksL n E V L)))))] [⟨3, [], .pointer (some ⟨b4, 0, none⟩)⟩, ⟨5, [], v15p⟩, ⟨7, [], v22p⟩, ⟨9, [], .int .i64 (q + ((((blocksL n E V L).getD i.toNat ([], [])).2).length : Int))⟩, ⟨10, [], .int .i64 i⟩, ⟨11, [], .int .i64 k⟩, ⟨97, [], .bool ((decide ((0 : Int) < ((andL (((blocksL n E V L).getD i.toNat ([], [])).2) (((blocksL n E V L).getD k.toNat ([], [])).2)).length : Int))) || (decide ((1 : Int) < ((andL (((blocksL n E V L).getD i.toNat ([], [])).1) (((blocksL n E V L).getD k.toNat ([], [])).1)).length : Int))))⟩, ⟨101, [(97, false)], .bool (decide (((andL (((blocksL n E V L).getD i.toNat ([], [])).1) (((blocksL n E V L).getD k.toNat ([], [])).1)).length : Int) = 1))⟩, ⟨106, [(97, false), (101, true)], .bool (decide (((andL (((blocksL n E V L).getD i.toNat ([], [])).1) (((blocksL n E V L).getD k.toNat ([], [])).1)).getD (0 : Int).toNat 0) ∈ (cutsL V (blocksL n E V L))))⟩] (((True) ∧ (((decide ((0 : Int) < ((andL (((blocksL n E V L).getD i.toNat ([], [])).2) (((blocksL n E V L).getD k.toNat ([], [])).2)).length : Int))) || (decide ((1 : Int) < ((andL (((blocksL n E V L).getD i.toNat ([], [])).1) (((blocksL n E V L).getD k.toNat ([], [])).1)).length : Int)))) = false → (decide (((andL (((blocksL n E V L).getD i.toNat ([], [])).1) (((blocksL n E V L).getD k.toNat ([], [])).1)).length : Int) = 1)) = true → Callable Try.prog 24 ∧ CallOk Try.prog (On w76) 24 [v22p, .int .i64 ((andL (((blocksL n E V L).getD i.toNat ([], [])).1) (((blocksL n E V L).getD k.toNat ([], [])).1)).getD (0 : Int).toNat 0)].toArray (.bool (decide (((andL (((blocksL n E V L).getD i.toNat ([], [])).1) (((blocksL n E V L).getD k.toNat ([], [])).1)).getD (0 : Int).toNat 0) ∈ (cutsL V (blocksL n E V L))))))) ∧ True) hA H ⟨⟨trivial, fun _ _ => ⟨callable_of, callOk_of fun w hw => by exact in_any v22p (cutsL V (blocksL n E V L)) ((andL (((blocksL n E V L).getD i.toNat ([], [])).1) (((blocksL n E V L).getD k.toNat ([], [])).1)).getD (0 : Int).toNat 0) w (((H.on hw).get 2 rfl))⟩⟩, trivial⟩ fun a w79 H hA hG => ?_
          replace hD := hD.below hG
          refine ⟨fun _ => hD, ?_⟩
          refine m_takeE (n := 0) [] [28, 29, 30] #[true, true, true, true, true, true, true, true, true, true, true, true, true, true, true, true, true, true, true, true, true, true, true, true, true, true, true, true, true, true, true] [] [⟨3, [], .pointer (some ⟨b4, 0, none⟩)⟩, ⟨5, [], v15p⟩, ⟨7, [], v22p⟩, ⟨9, [], .int .i64 (q + ((((blocksL n E V L).getD i.toNat ([], [])).2).length : Int))⟩, ⟨10, [], .int .i64 i⟩, ⟨11, [], .int .i64 k⟩, ⟨109, [], .bool (((decide ((0 : Int) < ((andL (((blocksL n E V L).getD i.toNat ([], [])).2) (((blocksL n E V L).getD k.toNat ([], [])).2)).length : Int))) || (decide ((1 : Int) < ((andL (((blocksL n E V L).getD i.toNat ([], [])).1) (((blocksL n E V L).getD k.toNat ([], [])).1)).length : Int)))) || ((decide (((andL (((blocksL n E V L).getD i.toNat ([], [])).1) (((blocksL n E V L).getD k.toNat ([], [])).1)).length : Int) = 1)) && (!(decide (((andL (((blocksL n E V L).getD i.toNat ([], [])).1) (((blocksL n E V L).getD k.toNat ([], [])).1)).getD (0 : Int).toNat 0) ∈ (cutsL V (blocksL n E V L)))))))⟩] (((True) ∧ (((decide ((0 : Int) < ((andL (((blocksL n E V L).getD i.toNat ([], [])).2) (((blocksL n E V L).getD k.toNat ([], [])).2)).length : Int))) || (decide ((1 : Int) < ((andL (((blocksL n E V L).getD i.toNat ([], [])).1) (((blocksL n E V L).getD k.toNat ([], [])).1)).length : Int)))) = false → (decide (((andL (((blocksL n E V L).getD i.toNat ([], [])).1) (((blocksL n E V L).getD k.toNat ([], [])).1)).length : Int) = 1)) = true → True)) ∧ ((True) ∧ (((decide ((0 : Int) < ((andL (((blocksL n E V L).getD i.toNat ([], [])).2) (((blocksL n E V L).getD k.toNat ([], [])).2)).length : Int))) || (decide ((1 : Int) < ((andL (((blocksL n E V L).getD i.toNat ([], [])).1) (((blocksL n E V L).getD k.toNat ([], [])).1)).length : Int)))) = false → True)) ∧ ((True) ∧ (True)) ∧ True) hA hD ⟨⟨trivial, fun _ _ => trivial⟩, ⟨trivial, fun _ => trivial⟩, ⟨trivial, trivial⟩, trivial⟩ fun a hA => ?_
          refine m_end ?_
          refine hK69 _ _ ?_
          refine go_cond hA (.tmp 109) (((decide ((0 : Int) < ((andL (((blocksL n E V L).getD i.toNat ([], [])).2) (((blocksL n E V L).getD k.toNat ([], [])).2)).length : Int))) || (decide ((1 : Int) < ((andL (((blocksL n E V L).getD i.toNat ([], [])).1) (((blocksL n E V L).getD k.toNat ([], [])).1)).length : Int)))) || ((decide (((andL (((blocksL n E V L).getD i.toNat ([], [])).1) (((blocksL n E V L).getD k.toNat ([], [])).1)).length : Int) = 1)) && (!(decide (((andL (((blocksL n E V L).getD i.toNat ([], [])).1) (((blocksL n E V L).getD k.toNat ([], [])).1)).getD (0 : Int).toNat 0) ∈ (cutsL V (blocksL n E V L))))))) (fun hb80 => ?_) (fun hb80 => ?_)
          · have hhb80 := (oT hb80).imp (fun h => (oT h).imp (fun h => of_decide_eq_true h) (fun h => of_decide_eq_true h)) (fun h => (⟨of_decide_eq_true ((aT h).1), of_decide_eq_false (nT ((aT h).2))⟩ : _ ∧ _))
            refine go_seq fun K81 hK81 => ?_
            refine q_reg [] [(4, .bool false)] ((True) ∧ True) hA H ⟨trivial, trivial⟩ fun a w82 hA H hG => ?_
            refine hK81 _ _ ?_
            refine go_ret_ ?_
            refine ret_one 4 (.bool false) hA ?_
            obtain ⟨o1, o2, o3⟩ := once_two hpt (show i.toNat < _ by omega) (show k.toNat < i.toNat by omega)
            rw [o1] at hhb80
            have hz := hhb80; clear hhb80; rcases hz with (hz | hz) | ⟨hz1, hz2⟩
            · simp at hz
            · omega
            · exact absurd (o3 (by omega)) hz2
          · have hhb80 := (⟨(⟨of_decide_eq_false ((oF ((oF hb80).1)).1), of_decide_eq_false ((oF ((oF hb80).1)).2)⟩ : _ ∧ _), (aF ((oF hb80).2)).imp (fun h => of_decide_eq_false h) (fun h => of_decide_eq_true (nF h))⟩ : _ ∧ _)
            refine go_skip ?_
            refine hK57 _ _ ?_
            refine q_reg [] [(3, .pointer (some ⟨b4, 0, none⟩)), (5, v15p), (7, v22p), (9, .int .i64 (q + ((((blocksL n E V L).getD i.toNat ([], [])).2).length : Int))), (10, .int .i64 i), (11, .int .i64 (k + 1))] ((True) ∧ (InR .i64 (k + 1)) ∧ (True) ∧ True) hA H ⟨trivial, ⟨by omega, by omega⟩, trivial, trivial⟩ fun a w83 hA H hG => ?_
            replace H := H.drop 15
            replace H := H.drop 14
            replace H := H.drop 13
            replace H := H.drop 12
            replace H := H.drop 11
            replace H := H.drop 10
            replace H := H.drop 9
            replace H := H.drop 8
            replace H := H.drop 1
            replace H := H.drop 0
            refine ⟨(k + 1), ⟨env_sub _ hA, ⟨_, H⟩, ?_⟩, ?_⟩
            · (try dsimp only); exact ⟨by omega, by omega⟩
            · (try dsimp only); omega
        · have hhb56 := of_decide_eq_false hb56
          refine go_exit 2 ?_
          refine hK44 _ _ ?_
          refine q_reg [] [(3, .pointer (some ⟨b4, 0, none⟩)), (5, v15p), (7, v22p), (9, .int .i64 (q + ((((blocksL n E V L).getD i.toNat ([], [])).2).length : Int))), (10, .int .i64 (i + 1))] ((True) ∧ (InR .i64 (i + 1)) ∧ (True) ∧ True) hA H ⟨trivial, ⟨by omega, by omega⟩, trivial, trivial⟩ fun a w84 hA H hG => ?_
          replace H := H.drop 5
          replace H := H.drop 4
          refine ⟨(i + 1, q + ((((blocksL n E V L).getD i.toNat ([], [])).2).length : Int)), ⟨env_sub _ hA, ⟨_, H⟩, ?_⟩, ?_⟩
          · (try dsimp only); exact ⟨by omega, by omega, by rw [sumI_snoc h0 (by omega), ← hq]⟩
          · (try dsimp only); omega
      · have hhb43 := of_decide_eq_false hb43
        refine go_exit 0 ?_
        refine hK35 _ _ ?_
        refine go_seq fun K85 hK85 => ?_
        refine q_reg [(112, vl), (113, .int .i64 (L.length : Int))] [(4, .bool (decide (q = (L.length : Int))))] ((True) ∧ (0 < Try.prog.cellsOf 27) ∧ (CellOk (On w42) b4 (0 + 1) (vl)) ∧ (LenOk vl (L.length : Int)) ∧ (True) ∧ (True) ∧ True) hA H ⟨trivial, by decide +kernel, by exact box_cell H 2 rfl 1, by exact len_ok (H.arg hL), trivial, trivial, trivial⟩ fun a w86 hA H hG => ?_
        refine hK85 _ _ ?_
        refine go_ret_ ?_
        refine ret_one 4 (.bool (decide (q = (L.length : Int)))) hA ?_
        exact ans_b' (by rw [hq, List.take_of_length_le (by omega), sumI_all hpt]; simp) H.below

end Go.Proofs.Ytahonnlgkmimlaa
