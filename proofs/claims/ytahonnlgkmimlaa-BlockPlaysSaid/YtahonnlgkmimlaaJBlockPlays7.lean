/-
  Texts joined by program: WalkB6, WalkB7, WalkB8, WalkB9, BlockM, WalkB13, WalkB15.
-/
import Derived.Test.YtahonnlgkmimlaaProg
import Derived.Test.YtahonnlgkmimlaaJBlockPlays6
set_option linter.unusedSimpArgs false
set_option linter.unusedVariables false
namespace Go.Proofs.Ytahonnlgkmimlaa
open Go.RowKit

set_option maxRecDepth 100000 in
set_option maxHeartbeats 4000000 in
theorem blocks_any (n : Int) (ve : Value) (E : List (Int × Int)) (vv vl : Value) (V L : List Int) (o : Orig) (hn : -9223372036854775808 ≤ n ∧ n ≤ 9223372036854775807) (hE : Rd (· < o.w.heap.size) o.w ve E) (hV : Rd (· < o.w.heap.size) o.w vv V) (hL : Rd (· < o.w.heap.size) o.w vl L) :
  Calls Try.prog 47 [.agg #[.int .i64 n, ve], .agg #[vv, vl]].toArray o.w (Giv o (fun S v w' => ∃ p, v = .tuple #[p, .int .i64 (partE n E V L)] ∧ Rd S w' p (blocksE n E V L))) := by
  refine enter Try.f47 41 Try.func47 fun a hA => ?_
  replace hA := env_sub [(0, .agg #[.int .i64 n, ve]), (1, .agg #[vv, vl])] hA
  have H := Fr.start o
  refine go_seq fun K1 hK1 => ?_
  refine region_list ?_
  refine list_at 0 ?_; refine q_box 0 2 24 (.tmp 0) (.agg #[.int .i64 n, ve]) [.int .i64 n, ve] [(1, .agg #[vv, vl])] hA H fun b2 a w3 H hA hG hge_b2 => ?_
  clear hge_b2
  refine list_at 1 ?_; refine q_box 1 3 29 (.tmp 1) (.agg #[vv, vl]) [vv, vl] [(2, .pointer (some ⟨b2, 0, none⟩))] hA H fun b4 a w5 H hA hG hge_b4 => ?_
  clear hge_b4
  refine q_list 2 2 [] [(2, .pointer (some ⟨b2, 0, none⟩)), (3, .pointer (some ⟨b4, 0, none⟩))] ((True) ∧ (True) ∧ True) hA H ⟨trivial, trivial, trivial⟩ fun a w6 hA H hG => ?_
  refine list_end ?_
  refine hK1 _ _ ?_
  refine go_seq fun K7 hK7 => ?_
  refine go_seq fun K8 hK8 => ?_
  refine q_reg [(11, .agg #[.int .i64 n, ve]), (12, .agg #[vv, vl]), (13, .int .i64 (partE n E V L))] [(2, .pointer (some ⟨b2, 0, none⟩)), (3, .pointer (some ⟨b4, 0, none⟩)), (6, .int .i64 (partE n E V L))] (((Try.prog.info? 24).isSome = true ∧ RowOk (On w6) b2 (0) (Try.prog.cellsOf 24) #[.int .i64 n, ve]) ∧ ((Try.prog.info? 29).isSome = true ∧ RowOk (On w6) b4 (0) (Try.prog.cellsOf 29) #[vv, vl]) ∧ (Callable Try.prog 31 ∧ CallOk Try.prog (On w6) 31 [.agg #[.int .i64 n, ve], .agg #[vv, vl]].toArray (.int .i64 (partE n E V L))) ∧ (True) ∧ True) hA H ⟨⟨by kernel_rfl, by exact box_row H 1 rfl 0 2⟩, ⟨by kernel_rfl, by exact box_row H 0 rfl 0 2⟩, ⟨callable_of, callOk_of fun w hw => by exact rightPart_any n ve E vv vl V L w (by omega) (((H.on hw).arg hE)) (((H.on hw).arg hV)) (((H.on hw).arg hL))⟩, trivial, trivial⟩ fun a w9 hA H hG => ?_
  refine hK8 _ _ ?_
  refine go_seq fun K10 hK10 => ?_
  refine q_reg [] [(2, .pointer (some ⟨b2, 0, none⟩)), (3, .pointer (some ⟨b4, 0, none⟩)), (6, .int .i64 (partE n E V L)), (15, .bool (!decide (partE n E V L = 0)))] ((True) ∧ (True) ∧ True) hA H ⟨trivial, trivial, trivial⟩ fun a w11 hA H hG => ?_
  refine hK10 _ _ ?_
  refine go_cond hA (.tmp 15) (!decide (partE n E V L = 0)) (fun hb12 => ?_) (fun hb12 => ?_)
  · have hhb12 := of_decide_eq_false (nT hb12)
    refine go_seq fun K13 hK13 => ?_
    refine q_reg [] [(4, (.slice none 0 0)), (5, .int .i64 (partE n E V L))] ((True) ∧ (True) ∧ (True) ∧ True) hA H ⟨trivial, trivial, trivial, trivial⟩ fun a w14 hA H hG => ?_
    refine hK13 _ _ ?_
    refine go_ret_ ?_
    refine ret_two 4 5 (.slice none 0 0) (.int .i64 (partE n E V L)) hA ?_
    exact ⟨_, rfl, ⟨_, rfl, by unfold blocksE; rw [if_pos hhb12]; exact rd_nil⟩, H.below⟩
  · have hhb12 := of_decide_eq_true (nF hb12)
    refine go_skip ?_
    refine hK7 _ _ ?_
    refine go_seq fun K15 hK15 => ?_
    have hpt : partE n E V L = 0 := by omega
    have hr9 := rightE_0 (part_iff.1 hpt).1
    refine region_list ?_
    refine q_list 0 2 [(17, .agg #[.int .i64 n, ve]), (18, .agg #[vv, vl])] [(2, .pointer (some ⟨b2, 0, none⟩)), (17, .agg #[.int .i64 n, ve]), (18, .agg #[vv, vl])] (((Try.prog.info? 24).isSome = true ∧ RowOk (On w11) b2 (0) (Try.prog.cellsOf 24) #[.int .i64 n, ve]) ∧ ((Try.prog.info? 29).isSome = true ∧ RowOk (On w11) b4 (0) (Try.prog.cellsOf 29) #[vv, vl]) ∧ True) hA H ⟨⟨by kernel_rfl, by exact box_row H 1 rfl 0 2⟩, ⟨by kernel_rfl, by exact box_row H 0 rfl 0 2⟩, trivial⟩ fun a w16 hA H hG => ?_
    obtain ⟨s', hroots, hbd, hrest, hmet⟩ := find_ex hpt
    refine list_at 2 ?_; refine q_any 2 19 80 #[.tmp 17, .tmp 18] #[24, 29] [.agg #[.int .i64 n, ve], .agg #[vv, vl]] (fun u9 w9 => ∃ fb mb lb pb vd DL S ev ins, u9 = .pointer (some ⟨fb, 0, none⟩) ∧ Fr o w9 S (finR n ve vd DL fb mb lb pb s' ev ins [.box b4 29 [vv, vl], .box b2 24 [.int .i64 n, ve]]) ∧ insOf ins = s'.ins) [(2, .pointer (some ⟨b2, 0, none⟩))] hA ((find_any n ve E vv vl V L o _ s' [.box b4 29 [vv, vl], .box b2 24 [.int .i64 n, ve]] _ hpt hE hV hL H hroots hbd).mono fun e9 w9 ⟨fb, mb, lb, pb, vd, DL, S, ev, ins, h9, h10⟩ => ⟨_, h9, fb, mb, lb, pb, vd, DL, S, ev, ins, rfl, h10⟩) fun v17 a w18 hR19 hA => ?_
    obtain ⟨fb, mb, lb, pb, vd, DL, S, ev, ins, rfl, H, hins⟩ := hR19
    replace H : Fr _ _ _ [.box fb 106 [.int .i64 n, ve, vd, (.slice (some ⟨mb, 0, none⟩) n.toNat n.toNat), (.slice (some ⟨lb, 0, none⟩) n.toNat n.toNat), .int .i64 s'.cnt, ev, (.map (some pb))], .box mb 3 (arrV n fun j => .int .i64 (s'.met j)), .box lb 3 (arrV n fun j => .int .i64 (s'.low j)), .row 3 ev s'.stk, mapR Try.prog 3 pb ins, .ro vd DL, .box b4 29 [vv, vl], .box b2 24 [.int .i64 n, ve]] := H
    refine q_list 3 4 [(22, (.map (some pb)))] [(2, .pointer (some ⟨b2, 0, none⟩)), (7, (.map (some pb)))] ((True) ∧ (0 < Try.prog.cellsOf 104) ∧ (CellOk (On w18) fb (0 + 7) ((.map (some pb)))) ∧ (True) ∧ True) hA H ⟨trivial, by decide +kernel, by exact box_cell H 0 rfl 7, trivial, trivial⟩ fun a w20 hA H hG => ?_
    refine list_end ?_
    refine hK15 _ _ ?_
    refine go_seq fun K21 hK21 => ?_
    have hil : ins.length ≤ 1000000000 := by have := hbd.ins; rw [← hins, List.length_map] at this; exact this
    refine q_reg [] [(2, .pointer (some ⟨b2, 0, none⟩)), (7, (.map (some pb))), (8, (.slice none 0 0))] ((True) ∧ True) hA H ⟨trivial, trivial⟩ fun a w22 hA H hG => ?_
    refine hK21 _ _ ?_
    refine go_seq fun K23 hK23 => ?_
    refine go_seq fun K24 hK24 => ?_
    refine region_list ?_
    refine q_list 0 1 [] [(2, .pointer (some ⟨b2, 0, none⟩)), (7, (.map (some pb))), (8, (.slice none 0 0)), (23, (.map (some pb)))] ((True) ∧ True) hA H ⟨trivial, trivial⟩ fun a w25 hA H hG => ?_
    refine list_at 1 ?_; refine q_any 1 24 82 #[.tmp 23] #[104] [(.map (some pb))] (fun u9 w9 => ∃ kb, u9 = .func (.func 104) #[] #[.pointer (some ⟨kb, 0, none⟩)] ∧ Fr o w9 S (.box kb 104 [.map (some pb)] :: [.box fb 106 [.int .i64 n, ve, vd, (.slice (some ⟨mb, 0, none⟩) n.toNat n.toNat), (.slice (some ⟨lb, 0, none⟩) n.toNat n.toNat), .int .i64 s'.cnt, ev, (.map (some pb))], .box mb 3 (arrV n fun j => .int .i64 (s'.met j)), .box lb 3 (arrV n fun j => .int .i64 (s'.low j)), .row 3 ev s'.stk, mapR Try.prog 3 pb ins, .ro vd DL, .box b4 29 [vv, vl], .box b2 24 [.int .i64 n, ve]]) ∧ Below w25.heap.size w25 w9) [(2, .pointer (some ⟨b2, 0, none⟩)), (7, (.map (some pb))), (8, (.slice none 0 0))] hA ((keys_box _).mono fun e9 w9 h9 => ⟨_, h9.1, _, rfl, h9.2 ▸ H.newBox _ _, h9.2 ▸ below_new _ _⟩) fun v26 a w27 hR28 hA => ?_
    obtain ⟨kb29, rfl, H, hG⟩ := hR28
    replace H : Fr _ _ _ [.box kb29 104 [.map (some pb)], .box fb 106 [.int .i64 n, ve, vd, (.slice (some ⟨mb, 0, none⟩) n.toNat n.toNat), (.slice (some ⟨lb, 0, none⟩) n.toNat n.toNat), .int .i64 s'.cnt, ev, (.map (some pb))], .box mb 3 (arrV n fun j => .int .i64 (s'.met j)), .box lb 3 (arrV n fun j => .int .i64 (s'.low j)), .row 3 ev s'.stk, mapR Try.prog 3 pb ins, .ro vd DL, .box b4 29 [vv, vl], .box b2 24 [.int .i64 n, ve]] := H
    refine list_at 2 ?_; refine q_any 2 25 81 #[.tmp 24] #[111] [.func (.func 104) #[] #[.pointer (some ⟨kb29, 0, none⟩)]] _ [(2, .pointer (some ⟨b2, 0, none⟩)), (7, (.map (some pb))), (8, (.slice none 0 0))] hA (sorted_row H 5 0 rfl rfl hil) fun v30 a w31 hR32 hA => ?_
    obtain ⟨⟨K, hK, hKm, H⟩, hG⟩ := hR32
    replace H : Fr _ _ _ [.row 3 v30 K, .box kb29 104 [.map (some pb)], .box fb 106 [.int .i64 n, ve, vd, (.slice (some ⟨mb, 0, none⟩) n.toNat n.toNat), (.slice (some ⟨lb, 0, none⟩) n.toNat n.toNat), .int .i64 s'.cnt, ev, (.map (some pb))], .box mb 3 (arrV n fun j => .int .i64 (s'.met j)), .box lb 3 (arrV n fun j => .int .i64 (s'.low j)), .row 3 ev s'.stk, mapR Try.prog 3 pb ins, .ro vd DL, .box b4 29 [vv, vl], .box b2 24 [.int .i64 n, ve]] := H
    refine q_list 3 2 [(26, .int .i64 (K.length : Int))] [(2, .pointer (some ⟨b2, 0, none⟩)), (7, (.map (some pb))), (8, (.slice none 0 0)), (25, v30), (26, .int .i64 (K.length : Int)), (27, .int .i64 0)] ((LenOk v30 (K.length : Int)) ∧ (True) ∧ True) hA H ⟨by exact len_ok (H.out 0 rfl), trivial, trivial⟩ fun a w33 hA H hG => ?_
    refine list_end ?_
    refine hK24 _ _ ?_
    refine go_block 0 ?_
    replace H := H.newRow (α := List Int × List Int) 29
    refine go_loop_ (Int × Value × List (List Int × List Int)) (fun x_ a W => (fun (i : Int) (vr : Value) (l : List (List Int × List Int)) => EnvOk 41 a (keepEnv [(2, .pointer (some ⟨b2, 0, none⟩)), (7, (.map (some pb))), (8, vr), (25, v30), (26, .int .i64 (K.length : Int)), (27, .int .i64 i)]) ∧ (∃ S, Fr o W S [.row 29 vr l, .row 3 v30 K, .box kb29 104 [.map (some pb)], .box fb 106 [.int .i64 n, ve, vd, (.slice (some ⟨mb, 0, none⟩) n.toNat n.toNat), (.slice (some ⟨lb, 0, none⟩) n.toNat n.toNat), .int .i64 s'.cnt, ev, (.map (some pb))], .box mb 3 (arrV n fun j => .int .i64 (s'.met j)), .box lb 3 (arrV n fun j => .int .i64 (s'.low j)), .row 3 ev s'.stk, mapR Try.prog 3 pb ins, .ro vd DL, .box b4 29 [vv, vl], .box b2 24 [.int .i64 n, ve]]) ∧ 0 ≤ i ∧ i ≤ (K.length : Int) ∧ (l.length : Int) ≤ i ∧ l = (K.take i.toNat).map (fun k => (Lib.compact (sortL (endsL E (valAt ins k))), valAt ins k))) x_.1 x_.2.1 x_.2.2) (fun x_ => (fun (i : Int) (vr : Value) (l : List (List Int × List Int)) => ((K.length : Int) - i).toNat) x_.1 x_.2.1 x_.2.2) (0, .slice none 0 0, []) ?_ (fun x_ a w35 hI => ?_)
    · (try dsimp only); exact ⟨env_sub _ hA, ⟨_, H⟩, by omega, by omega, by simp, by simp⟩
    obtain ⟨i, vr, l⟩ := x_
    obtain ⟨hA, ⟨S, H⟩, h0, h0b, h1, hi⟩ := hI
    try dsimp only at h0 h0b h1 hi
    refine go_seq fun K36 hK36 => ?_
    have hKl := keys_len hK hKm
    refine q_reg [] [(2, .pointer (some ⟨b2, 0, none⟩)), (7, (.map (some pb))), (8, vr), (25, v30), (26, .int .i64 (K.length : Int)), (27, .int .i64 i), (28, .bool (decide (i < (K.length : Int))))] ((True) ∧ True) hA H ⟨trivial, trivial⟩ fun a w37 hA H hG => ?_
    refine hK36 _ _ ?_
    refine go_seq fun K38 hK38 => ?_
    refine go_cond hA (.tmp 28) (decide (i < (K.length : Int))) (fun hb39 => ?_) (fun hb39 => ?_)
    · have hhb39 := of_decide_eq_true hb39
      refine go_skip ?_
      refine hK38 _ _ ?_
      refine go_seq fun K40 hK40 => ?_
      refine go_block 1 ?_
      refine go_seq fun K41 hK41 => ?_
      refine q_reg [(30, .int .i64 (K.getD i.toNat 0))] [(2, .pointer (some ⟨b2, 0, none⟩)), (7, (.map (some pb))), (8, vr), (10, .int .i64 (K.getD i.toNat 0)), (25, v30), (26, .int .i64 (K.length : Int)), (27, .int .i64 i)] (((Try.prog.info? 3).isSome = true ∧ IdxOk v30 i) ∧ (CellOk (On w37) (hdB v30) (hdO v30 + i.toNat * 1) (.int .i64 (K.getD i.toNat 0))) ∧ (True) ∧ True) hA H ⟨⟨by kernel_rfl, by exact idx_ok (H.out 1 rfl) (by omega) (by omega)⟩, by exact cell_flat (i := i) (H.out 1 rfl) (by omega) (by omega) 0 0, trivial, trivial⟩ fun a w42 hA H hG => ?_
      refine hK41 _ _ ?_
      obtain ⟨lv, hlv⟩ := (hKm (K.getD i.toNat 0)).1 (mem_getD.2 ⟨i.toNat, by omega, rfl⟩)
      obtain ⟨⟨u, rv⟩, hla⟩ := lastAt_some hlv
      have hmem := lastAt_mem hla
      have hinm : ((K.getD i.toNat 0), rv) ∈ s'.ins := by rw [← hins]; exact List.mem_map.2 ⟨_, hmem, rfl⟩
      have hval : valAt ins (K.getD i.toNat 0) = rv := by unfold valAt; rw [hla]
      obtain ⟨hc1, hc2, hc3⟩ := ins_class hpt hrest hmet hinm
      have hxs : risesP rv (E.length : Int) := by have h9 := (part_iff.1 hpt).2.2.1; rw [show rv = _ from hc2]; exact rises_sub ((rises_iff.1 h9).1.sublist List.filter_sublist) h9 fun x hx => (List.mem_filter.1 hx).1
      have hkw := (rises_iff.1 (part_iff.1 hpt).2.2.1).2 _ hc1
      obtain ⟨hlk, hlr⟩ := map_look (t := 104) H 7 rfl hla (show wfI _ from ⟨by omega, by omega⟩) Try.underlying104 Try.underlying3 (z := .slice none 0 0) (fun w => by kernel_rfl)
      replace H := (H.ro hlr).sink 1 11
      replace H : Fr _ _ _ [.row 29 vr l, .row 3 v30 K, .box kb29 104 [.map (some pb)], .box fb 106 [.int .i64 n, ve, vd, (.slice (some ⟨mb, 0, none⟩) n.toNat n.toNat), (.slice (some ⟨lb, 0, none⟩) n.toNat n.toNat), .int .i64 s'.cnt, ev, (.map (some pb))], .box mb 3 (arrV n fun j => .int .i64 (s'.met j)), .box lb 3 (arrV n fun j => .int .i64 (s'.low j)), .row 3 ev s'.stk, mapR Try.prog 3 pb ins, .ro vd DL, .box b4 29 [vv, vl], .box b2 24 [.int .i64 n, ve], .ro u rv] := H
      refine region_list ?_
      refine q_list 0 5 [(32, .agg #[.int .i64 n, ve]), (35, u)] [(2, .pointer (some ⟨b2, 0, none⟩)), (7, (.map (some pb))), (25, v30), (26, .int .i64 (K.length : Int)), (27, .int .i64 i), (31, vr), (32, .agg #[.int .i64 n, ve]), (35, u)] ((True) ∧ ((Try.prog.info? 24).isSome = true ∧ RowOk (On w42) b2 (0) (Try.prog.cellsOf 24) #[.int .i64 n, ve]) ∧ (True) ∧ (True) ∧ (∀ w', On w42 w' → (Instr.lookup 104 (.map (some pb)) (.int .i64 (K.getD i.toNat 0)) false).run Try.prog w' = .ok u w') ∧ True) hA H ⟨trivial, ⟨by kernel_rfl, by exact box_row H 10 rfl 0 2⟩, trivial, trivial, by exact hlk, trivial⟩ fun a w43 hA H hG => ?_
      refine list_at 5 ?_; refine q_call 5 36 83 #[.tmp 32, .tmp 35] #[24, 27] [.agg #[.int .i64 n, ve], u] (fun S v w' => Rd S w' v ((Lib.compact (sortL (endsL E rv)), rv))) [(2, .pointer (some ⟨b2, 0, none⟩)), (7, (.map (some pb))), (25, v30), (26, .int .i64 (K.length : Int)), (27, .int .i64 i), (31, vr)] hA H (by exact bspan_any n ve E u rv H.at (by omega) ((H.arg hE)) ((H.get 11 rfl)) hxs (by omega)) fun v44 a w45 S hR46 H hA hG => ?_
      obtain ⟨v44a, v44b, rfl, hR46a, hR46b⟩ := two_rd hR46
      replace H := H.ro hR46a; replace H := H.ro hR46b
      replace H : Fr _ _ _ [.ro v44b rv, .ro v44a (Lib.compact (sortL (endsL E rv))), .row 29 vr l, .row 3 v30 K, .box kb29 104 [.map (some pb)], .box fb 106 [.int .i64 n, ve, vd, (.slice (some ⟨mb, 0, none⟩) n.toNat n.toNat), (.slice (some ⟨lb, 0, none⟩) n.toNat n.toNat), .int .i64 s'.cnt, ev, (.map (some pb))], .box mb 3 (arrV n fun j => .int .i64 (s'.met j)), .box lb 3 (arrV n fun j => .int .i64 (s'.low j)), .row 3 ev s'.stk, mapR Try.prog 3 pb ins, .ro vd DL, .box b4 29 [vv, vl], .box b2 24 [.int .i64 n, ve], .ro u rv] := H
      refine list_at 6 ?_; refine q_lit 6 37 56 1 #[(0, .tmp 36)] 29 [(0, .agg #[v44a, v44b])] [v44a, v44b] [(2, .pointer (some ⟨b2, 0, none⟩)), (7, (.map (some pb))), (25, v30), (26, .int .i64 (K.length : Int)), (27, .int .i64 i), (31, vr)] hA H fun b49 a w50 H hA hG hge_b49 => ?_
      clear hge_b49
      refine list_at 7 ?_; refine q_push 7 38 (.tmp 31) (.tmp 37) 3 0 b49 1 1 vr l [(Lib.compact (sortL (endsL E rv)), rv)] [v44a, v44b] [(2, .pointer (some ⟨b2, 0, none⟩)), (7, (.map (some pb))), (25, v30), (26, .int .i64 (K.length : Int)), (27, .int .i64 i)] hA H Try.E56 rfl rfl (by exact (RowRd.single (α := (List (Int)) × List (Int)) ⟨[_], _, rfl, ⟨_, rfl, rd_slice (H.getS 2 rfl)⟩, ⟨_, rfl, rd_slice (H.getS 1 rfl)⟩⟩)) rfl (by simp only [List.length_cons, List.length_nil, List.length_append]; omega) (by decide) fun v51 a w52 H hA hG => ?_
      replace H : Fr _ _ _ [.ro v44b rv, .ro v44a (Lib.compact (sortL (endsL E rv))), .row 29 v51 (l ++ [(Lib.compact (sortL (endsL E rv)), rv)]), .row 3 v30 K, .box kb29 104 [.map (some pb)], .box fb 106 [.int .i64 n, ve, vd, (.slice (some ⟨mb, 0, none⟩) n.toNat n.toNat), (.slice (some ⟨lb, 0, none⟩) n.toNat n.toNat), .int .i64 s'.cnt, ev, (.map (some pb))], .box mb 3 (arrV n fun j => .int .i64 (s'.met j)), .box lb 3 (arrV n fun j => .int .i64 (s'.low j)), .row 3 ev s'.stk, mapR Try.prog 3 pb ins, .ro vd DL, .box b4 29 [vv, vl], .box b2 24 [.int .i64 n, ve], .ro u rv] := H.drop 0
      refine q_list 8 1 [] [(2, .pointer (some ⟨b2, 0, none⟩)), (7, (.map (some pb))), (8, v51), (25, v30), (26, .int .i64 (K.length : Int)), (27, .int .i64 i)] ((True) ∧ True) hA H ⟨trivial, trivial⟩ fun a w53 hA H hG => ?_
      refine list_end ?_
      refine hK40 _ _ ?_
      refine q_reg [] [(2, .pointer (some ⟨b2, 0, none⟩)), (7, (.map (some pb))), (8, v51), (25, v30), (26, .int .i64 (K.length : Int)), (27, .int .i64 (i + 1))] ((InR .i64 (i + 1)) ∧ (True) ∧ True) hA H ⟨⟨by omega, by omega⟩, trivial, trivial⟩ fun a w54 hA H hG => ?_
      replace H := H.drop 13
      replace H := H.drop 1
      replace H := H.drop 0
      refine ⟨(i + 1, v51, l ++ [(Lib.compact (sortL (endsL E rv)), rv)]), ⟨env_sub _ hA, ⟨_, H⟩, ?_⟩, ?_⟩
      · (try dsimp only); exact ⟨by omega, by omega, by (try simp only [List.length_append, List.length_cons, List.length_nil]); omega, by rw [hi, take_snoc h0 (by omega), List.map_append]; simp only [List.map_cons, List.map_nil, hval]⟩
      · (try dsimp only); omega
    · have hhb39 := of_decide_eq_false hb39
      refine go_exit 0 ?_
      refine hK23 _ _ ?_
      refine go_seq fun K55 hK55 => ?_
      refine q_reg [] [(4, vr), (5, .int .i64 0)] ((True) ∧ (True) ∧ (True) ∧ True) hA H ⟨trivial, trivial, trivial, trivial⟩ fun a w56 hA H hG => ?_
      refine hK55 _ _ ?_
      refine go_ret_ ?_
      refine ret_two 4 5 vr (.int .i64 0) hA ?_
      have ho := (H.give 0 rfl)
      rw [List.take_of_length_le (by omega)] at hi; have hbe := blocks_val hpt hrest hmet hins hK hKm; rw [hi, hbe] at ho
      exact ⟨_, rfl, ⟨_, by rw [hpt], by unfold blocksE; rw [if_neg (by omega)]; exact ho⟩, H.below⟩

end Go.Proofs.Ytahonnlgkmimlaa

set_option linter.unusedSimpArgs false
set_option linter.unusedVariables false
namespace Go.Proofs.Ytahonnlgkmimlaa
open Go.RowKit

set_option maxRecDepth 100000 in
set_option maxHeartbeats 4000000 in
theorem around_any (n : Int) (ve : Value) (E : List (Int × Int)) (vv vl : Value) (V L : List Int) (x : Int) (o : Orig) (hn : -9223372036854775808 ≤ n ∧ n ≤ 9223372036854775807) (hE : Rd (· < o.w.heap.size) o.w ve E) (hV : Rd (· < o.w.heap.size) o.w vv V) (hL : Rd (· < o.w.heap.size) o.w vl L) :
  Calls Try.prog 49 [.agg #[.int .i64 n, ve], .agg #[vv, vl], .int .i64 x].toArray o.w (Giv o (fun S v w' => Rd S w' v (aroundE n E V L x))) := by
  refine enter Try.f49 36 Try.func49 fun a hA => ?_
  replace hA := env_sub [(0, .agg #[.int .i64 n, ve]), (1, .agg #[vv, vl]), (2, .int .i64 x)] hA
  have H := Fr.start o
  refine go_seq fun K1 hK1 => ?_
  refine region_list ?_
  refine list_at 0 ?_; refine q_box 0 3 24 (.tmp 0) (.agg #[.int .i64 n, ve]) [.int .i64 n, ve] [(1, .agg #[vv, vl]), (2, .int .i64 x)] hA H fun b2 a w3 H hA hG hge_b2 => ?_
  clear hge_b2
  refine list_at 1 ?_; refine q_box 1 4 29 (.tmp 1) (.agg #[vv, vl]) [vv, vl] [(2, .int .i64 x), (3, .pointer (some ⟨b2, 0, none⟩))] hA H fun b4 a w5 H hA hG hge_b4 => ?_
  clear hge_b4
  refine q_list 2 1 [] [(2, .int .i64 x), (3, .pointer (some ⟨b2, 0, none⟩)), (4, .pointer (some ⟨b4, 0, none⟩))] ((True) ∧ True) hA H ⟨trivial, trivial⟩ fun a w6 hA H hG => ?_
  refine list_end ?_
  refine hK1 _ _ ?_
  refine go_seq fun K7 hK7 => ?_
  refine region_list ?_
  refine q_list 0 2 [(13, .agg #[.int .i64 n, ve]), (14, .agg #[vv, vl])] [(2, .int .i64 x), (13, .agg #[.int .i64 n, ve]), (14, .agg #[vv, vl])] (((Try.prog.info? 24).isSome = true ∧ RowOk (On w6) b2 (0) (Try.prog.cellsOf 24) #[.int .i64 n, ve]) ∧ ((Try.prog.info? 29).isSome = true ∧ RowOk (On w6) b4 (0) (Try.prog.cellsOf 29) #[vv, vl]) ∧ True) hA H ⟨⟨by kernel_rfl, by exact box_row H 1 rfl 0 2⟩, ⟨by kernel_rfl, by exact box_row H 0 rfl 0 2⟩, trivial⟩ fun a w8 hA H hG => ?_
  refine list_at 2 ?_; refine q_call 2 15 47 #[.tmp 13, .tmp 14] #[24, 29] [.agg #[.int .i64 n, ve], .agg #[vv, vl]] (fun S v w' => ∃ p, v = .tuple #[p, .int .i64 (partE n E V L)] ∧ Rd S w' p ((blocksE n E V L))) [(2, .int .i64 x)] hA H (by exact blocks_any n ve E vv vl V L H.at (by omega) ((H.arg hE)) ((H.arg hV)) ((H.arg hL))) fun v9 a w10 S hR11 H hA hG => ?_
  obtain ⟨v9p, rfl, hR11p⟩ := hR11
  replace H := H.ro hR11p
  replace H : Fr _ _ _ [.ro v9p (blocksE n E V L), .box b4 29 [vv, vl], .box b2 24 [.int .i64 n, ve]] := H
  refine q_list 3 5 [] [(2, .int .i64 x), (7, v9p), (8, .int .i64 (partE n E V L))] ((True) ∧ (True) ∧ (True) ∧ (True) ∧ (True) ∧ True) hA H ⟨trivial, trivial, trivial, trivial, trivial, trivial⟩ fun a w13 hA H hG => ?_
  refine list_end ?_
  refine hK7 _ _ ?_
  refine go_seq fun K14 hK14 => ?_
  refine go_seq fun K15 hK15 => ?_
  refine q_reg [] [(2, .int .i64 x), (7, v9p), (19, .bool (!decide (partE n E V L = 0)))] ((True) ∧ (True) ∧ True) hA H ⟨trivial, trivial, trivial⟩ fun a w16 hA H hG => ?_
  refine hK15 _ _ ?_
  refine go_cond hA (.tmp 19) (!decide (partE n E V L = 0)) (fun hb17 => ?_) (fun hb17 => ?_)
  · have hhb17 := of_decide_eq_false (nT hb17)
    refine go_seq fun K18 hK18 => ?_
    refine q_reg [] [(6, (.slice none 0 0))] ((True) ∧ True) hA H ⟨trivial, trivial⟩ fun a w19 hA H hG => ?_
    refine hK18 _ _ ?_
    refine go_ret_ ?_
    refine ret_one 6 (.slice none 0 0) hA ?_
    exact ⟨_, rfl, by unfold aroundE; rw [if_pos hhb17]; exact rd_nil, H.below⟩
  · have hhb17 := of_decide_eq_true (nF hb17)
    refine go_skip ?_
    refine hK14 _ _ ?_
    refine go_seq fun K20 hK20 => ?_
    have hpt : partE n E V L = 0 := by omega
    have hbe : blocksE n E V L = blocksL n E V L := by unfold blocksE; rw [if_neg (by omega)]
    have hr9 := rightE_0 (part_iff.1 hpt).1
    have hbl9 := blocks_len n E V L
    have hl9 := rises_len (part_iff.1 hpt).2.2.1 (by omega)
    have hv9 := rises_len (part_iff.1 hpt).2.1 (by omega)
    simp only [hbe] at H
    refine q_reg [] [(2, .int .i64 x), (7, v9p), (9, (.slice none 0 0))] ((True) ∧ True) hA H ⟨trivial, trivial⟩ fun a w21 hA H hG => ?_
    refine hK20 _ _ ?_
    refine go_seq fun K22 hK22 => ?_
    refine go_seq fun K23 hK23 => ?_
    refine q_reg [(21, .int .i64 ((blocksL n E V L).length : Int))] [(2, .int .i64 x), (9, (.slice none 0 0)), (20, v9p), (21, .int .i64 ((blocksL n E V L).length : Int)), (22, .int .i64 0)] ((True) ∧ (LenOk v9p ((blocksL n E V L).length : Int)) ∧ (True) ∧ True) hA H ⟨trivial, by exact len_ok (H.get 0 rfl), trivial, trivial⟩ fun a w24 hA H hG => ?_
    refine hK23 _ _ ?_
    refine go_block 0 ?_
    replace H := H.newRow (α := List Int × List Int) 29
    refine go_loop_ (Int × Value × List (List Int × List Int)) (fun x_ a W => (fun (i : Int) (vr : Value) (l : List (List Int × List Int)) => EnvOk 36 a (keepEnv [(2, .int .i64 x), (9, vr), (20, v9p), (21, .int .i64 ((blocksL n E V L).length : Int)), (22, .int .i64 i)]) ∧ (∃ S, Fr o W S [.row 29 vr l, .ro v9p (blocksL n E V L), .box b4 29 [vv, vl], .box b2 24 [.int .i64 n, ve]]) ∧ 0 ≤ i ∧ i ≤ ((blocksL n E V L).length : Int) ∧ (l.length : Int) ≤ i ∧ l = hasIn ((blocksL n E V L).take i.toNat) x) x_.1 x_.2.1 x_.2.2) (fun x_ => (fun (i : Int) (vr : Value) (l : List (List Int × List Int)) => (((blocksL n E V L).length : Int) - i).toNat) x_.1 x_.2.1 x_.2.2) (0, .slice none 0 0, []) ?_ (fun x_ a w26 hI => ?_)
    · (try dsimp only); exact ⟨env_sub _ hA, ⟨_, H⟩, by omega, by omega, by simp, by simp [hasIn]⟩
    obtain ⟨i, vr, l⟩ := x_
    obtain ⟨hA, ⟨S, H⟩, h0, h0b, h1, hi⟩ := hI
    try dsimp only at h0 h0b h1 hi
    refine go_seq fun K27 hK27 => ?_
    refine q_reg [] [(2, .int .i64 x), (9, vr), (20, v9p), (21, .int .i64 ((blocksL n E V L).length : Int)), (22, .int .i64 i), (23, .bool (decide (i < ((blocksL n E V L).length : Int))))] ((True) ∧ True) hA H ⟨trivial, trivial⟩ fun a w28 hA H hG => ?_
    refine hK27 _ _ ?_
    refine go_seq fun K29 hK29 => ?_
    refine go_cond hA (.tmp 23) (decide (i < ((blocksL n E V L).length : Int))) (fun hb30 => ?_) (fun hb30 => ?_)
    · have hhb30 := of_decide_eq_true hb30
      refine go_skip ?_
      refine hK29 _ _ ?_
      refine go_seq fun K31 hK31 => ?_
      refine go_block 1 ?_
      refine go_seq fun K32 hK32 => ?_
      have hbm := getD_mem (l := blocksL n E V L) (i := i.toNat) (d := ([], [])) (by omega)
      obtain ⟨q1, q2, q3, q4⟩ := block_rises hpt hbm
      have q5 := rises_len q1 (by omega); have q6 := rises_len q2 (by omega)
      refine region_list ?_
      obtain ⟨ea33, eb34, hea33c, hea33a, hea33b⟩ := cell_twoC (C := On w28) H.keepsS (H.getS 1 rfl) i
      replace H := (H.ro (hea33a (by omega) (by omega))).sink 1 4
      replace H := (H.ro (hea33b (by omega) (by omega))).sink 1 5
      replace H : Fr _ _ _ [.row 29 vr l, .ro v9p (blocksL n E V L), .box b4 29 [vv, vl], .box b2 24 [.int .i64 n, ve], .ro ea33 ((blocksL n E V L).getD i.toNat ([], [])).1, .ro eb34 ((blocksL n E V L).getD i.toNat ([], [])).2] := H
      refine q_list 0 2 [(25, .agg #[ea33, eb34])] [(2, .int .i64 x), (9, vr), (20, v9p), (21, .int .i64 ((blocksL n E V L).length : Int)), (22, .int .i64 i), (25, .agg #[ea33, eb34])] (((Try.prog.info? 29).isSome = true ∧ IdxOk v9p i) ∧ ((Try.prog.info? 29).isSome = true ∧ RowOk (On w28) (hdB v9p) (hdO v9p + i.toNat * 2) (Try.prog.cellsOf 29) #[ea33, eb34]) ∧ True) hA H ⟨⟨by kernel_rfl, by exact idx_ok (H.get 1 rfl) (by omega) (by omega)⟩, ⟨by kernel_rfl, by exact hea33c (by omega) (by omega)⟩, trivial⟩ fun a w35 hA H hG => ?_
      refine list_at 2 ?_; refine q_alloc 2 11 29 [(.slice none 0 0), (.slice none 0 0)] [(2, .int .i64 x), (9, vr), (20, v9p), (21, .int .i64 ((blocksL n E V L).length : Int)), (22, .int .i64 i), (25, .agg #[ea33, eb34])] hA H fun b36 a w37 H hA hG hge_b36 => ?_
      clear hge_b36
      refine list_at 3 ?_; refine q_store 3 29 (.tmp 11) (.tmp 25) 0 b36 (0) 29 [(.slice none 0 0), (.slice none 0 0)] [ea33, eb34] [ea33, eb34] (.agg #[ea33, eb34]) [(2, .int .i64 x), (9, vr), (11, .pointer (some ⟨b36, 0, none⟩)), (20, v9p), (21, .int .i64 ((blocksL n E V L).length : Int)), (22, .int .i64 i)] hA H rfl rfl (Nat.le_of_ble_eq_true (by kernel_rfl)) rfl (fun v hv => by simp only [List.mem_cons, List.not_mem_nil, or_false] at hv; rcases hv with rfl | rfl; exact (rd_one (H.get 5 rfl)); exact (rd_one (H.get 6 rfl))) fun a w38 H hA hG => ?_
      replace H : Fr _ _ _ [.box b36 29 [ea33, eb34], .row 29 vr l, .ro v9p (blocksL n E V L), .box b4 29 [vv, vl], .box b2 24 [.int .i64 n, ve], .ro ea33 ((blocksL n E V L).getD i.toNat ([], [])).1, .ro eb34 ((blocksL n E V L).getD i.toNat ([], [])).2] := H
      refine list_end ?_
      refine hK32 _ _ ?_
      refine go_seq fun K39 hK39 => ?_
      refine q_reg [(27, ea33), (29, .bool (hasB (((blocksL n E V L).getD i.toNat ([], [])).1) x))] [(2, .int .i64 x), (9, vr), (11, .pointer (some ⟨b36, 0, none⟩)), (20, v9p), (21, .int .i64 ((blocksL n E V L).length : Int)), (22, .int .i64 i), (29, .bool (hasB (((blocksL n E V L).getD i.toNat ([], [])).1) x))] ((0 < Try.prog.cellsOf 27) ∧ (CellOk (On w38) b36 (0 + 0) (ea33)) ∧ (True) ∧ (Callable Try.prog 39 ∧ CallOk Try.prog (On w38) 39 [ea33, .int .i64 x].toArray (.bool (hasB (((blocksL n E V L).getD i.toNat ([], [])).1) x))) ∧ True) hA H ⟨by decide +kernel, by exact box_cell H 0 rfl 0, trivial, ⟨callable_of, callOk_of fun w hw => by exact has_any ea33 (((blocksL n E V L).getD i.toNat ([], [])).1) x w (((H.on hw).get 5 rfl)) (by omega)⟩, trivial⟩ fun a w40 hA H hG => ?_
      refine hK39 _ _ ?_
      refine go_cond hA (.tmp 29) (hasB (((blocksL n E V L).getD i.toNat ([], [])).1) x) (fun hb41 => ?_) (fun hb41 => ?_)
      · have hhb41 := hb41
        refine region_list ?_
        refine q_list 0 2 [(31, .agg #[ea33, eb34])] [(2, .int .i64 x), (20, v9p), (21, .int .i64 ((blocksL n E V L).length : Int)), (22, .int .i64 i), (30, vr), (31, .agg #[ea33, eb34])] ((True) ∧ ((Try.prog.info? 29).isSome = true ∧ RowOk (On w40) b36 (0) (Try.prog.cellsOf 29) #[ea33, eb34]) ∧ True) hA H ⟨trivial, ⟨by kernel_rfl, by exact box_row H 0 rfl 0 2⟩, trivial⟩ fun a w42 hA H hG => ?_
        refine list_at 2 ?_; refine q_lit 2 32 56 1 #[(0, .tmp 31)] 29 [(0, .agg #[ea33, eb34])] [ea33, eb34] [(2, .int .i64 x), (20, v9p), (21, .int .i64 ((blocksL n E V L).length : Int)), (22, .int .i64 i), (30, vr)] hA H fun b43 a w44 H hA hG hge_b43 => ?_
        clear hge_b43
        refine list_at 3 ?_; refine q_push 3 33 (.tmp 30) (.tmp 32) 2 0 b43 1 1 vr l [(((blocksL n E V L).getD i.toNat ([], [])).1, ((blocksL n E V L).getD i.toNat ([], [])).2)] [ea33, eb34] [(2, .int .i64 x), (20, v9p), (21, .int .i64 ((blocksL n E V L).length : Int)), (22, .int .i64 i)] hA H Try.E56 rfl rfl (by exact (RowRd.single (α := (List (Int)) × List (Int)) ⟨[_], _, rfl, ⟨_, rfl, rd_slice (H.getS 6 rfl)⟩, ⟨_, rfl, rd_slice (H.getS 7 rfl)⟩⟩)) rfl (by simp only [List.length_cons, List.length_nil, List.length_append]; omega) (by decide) fun v45 a w46 H hA hG => ?_
        replace H : Fr _ _ _ [.box b36 29 [ea33, eb34], .row 29 v45 (l ++ [(((blocksL n E V L).getD i.toNat ([], [])).1, ((blocksL n E V L).getD i.toNat ([], [])).2)]), .ro v9p (blocksL n E V L), .box b4 29 [vv, vl], .box b2 24 [.int .i64 n, ve], .ro ea33 ((blocksL n E V L).getD i.toNat ([], [])).1, .ro eb34 ((blocksL n E V L).getD i.toNat ([], [])).2] := H.drop 0
        refine q_list 4 1 [] [(2, .int .i64 x), (9, v45), (20, v9p), (21, .int .i64 ((blocksL n E V L).length : Int)), (22, .int .i64 i)] ((True) ∧ True) hA H ⟨trivial, trivial⟩ fun a w47 hA H hG => ?_
        refine list_end ?_
        refine hK31 _ _ ?_
        refine q_reg [] [(2, .int .i64 x), (9, v45), (20, v9p), (21, .int .i64 ((blocksL n E V L).length : Int)), (22, .int .i64 (i + 1))] ((InR .i64 (i + 1)) ∧ (True) ∧ True) hA H ⟨⟨by omega, by omega⟩, trivial, trivial⟩ fun a w48 hA H hG => ?_
        replace H := H.drop 6
        replace H := H.drop 5
        replace H := H.drop 0
        refine ⟨(i + 1, v45, l ++ [(((blocksL n E V L).getD i.toNat ([], [])).1, ((blocksL n E V L).getD i.toNat ([], [])).2)]), ⟨env_sub _ hA, ⟨_, H⟩, ?_⟩, ?_⟩
        · (try dsimp only); exact ⟨by omega, by omega, by (try simp only [List.length_append, List.length_cons, List.length_nil]); omega, by rw [hi, hasIn_snoc h0 (by omega)]; rw [hasB_mem q1] at hhb41; rw [if_pos (of_decide_eq_true hhb41)]⟩
        · (try dsimp only); omega
      · have hhb41 := hb41
        refine go_skip ?_
        refine hK31 _ _ ?_
        refine q_reg [] [(2, .int .i64 x), (9, vr), (20, v9p), (21, .int .i64 ((blocksL n E V L).length : Int)), (22, .int .i64 (i + 1))] ((InR .i64 (i + 1)) ∧ (True) ∧ True) hA H ⟨⟨by omega, by omega⟩, trivial, trivial⟩ fun a w49 hA H hG => ?_
        replace H := H.drop 6
        replace H := H.drop 5
        replace H := H.drop 0
        refine ⟨(i + 1, vr, l), ⟨env_sub _ hA, ⟨_, H⟩, ?_⟩, ?_⟩
        · (try dsimp only); exact ⟨by omega, by omega, by (try simp only [List.length_append, List.length_cons, List.length_nil]); omega, by rw [hi, hasIn_snoc h0 (by omega)]; rw [hasB_mem q1] at hhb41; rw [if_neg (of_decide_eq_false hhb41), List.append_nil]⟩
        · (try dsimp only); omega
    · have hhb30 := of_decide_eq_false hb30
      refine go_exit 0 ?_
      refine hK22 _ _ ?_
      refine go_seq fun K50 hK50 => ?_
      refine q_reg [] [(6, vr)] ((True) ∧ (True) ∧ True) hA H ⟨trivial, trivial, trivial⟩ fun a w51 hA H hG => ?_
      refine hK50 _ _ ?_
      refine go_ret_ ?_
      refine ret_one 6 vr hA ?_
      have ho := (H.give 0 rfl)
      rw [List.take_of_length_le (by omega)] at hi; rw [hi] at ho; exact ⟨_, rfl, by unfold aroundE; rw [if_neg (by omega)]; exact ho, H.below⟩

end Go.Proofs.Ytahonnlgkmimlaa

set_option linter.unusedSimpArgs false
set_option linter.unusedVariables false
namespace Go.Proofs.Ytahonnlgkmimlaa
open Go.RowKit

set_option maxRecDepth 100000 in
set_option maxHeartbeats 4000000 in
theorem cuts_any (n : Int) (ve : Value) (E : List (Int × Int)) (vv vl : Value) (V L : List Int) (o : Orig) (hn : -9223372036854775808 ≤ n ∧ n ≤ 9223372036854775807) (hE : Rd (· < o.w.heap.size) o.w ve E) (hV : Rd (· < o.w.heap.size) o.w vv V) (hL : Rd (· < o.w.heap.size) o.w vl L) :
  Calls Try.prog 48 [.agg #[.int .i64 n, ve], .agg #[vv, vl]].toArray o.w (Giv o (fun S v w' => ∃ p, v = .tuple #[p, .int .i64 (partE n E V L)] ∧ Rd S w' p (cutsE n E V L))) := by
  refine enter Try.f48 64 Try.func48 fun a hA => ?_
  replace hA := env_sub [(0, .agg #[.int .i64 n, ve]), (1, .agg #[vv, vl])] hA
  have H := Fr.start o
  refine go_seq fun K1 hK1 => ?_
  refine region_list ?_
  refine list_at 0 ?_; refine q_box 0 2 24 (.tmp 0) (.agg #[.int .i64 n, ve]) [.int .i64 n, ve] [(1, .agg #[vv, vl])] hA H fun b2 a w3 H hA hG hge_b2 => ?_
  clear hge_b2
  refine list_at 1 ?_; refine q_box 1 3 29 (.tmp 1) (.agg #[vv, vl]) [vv, vl] [(2, .pointer (some ⟨b2, 0, none⟩))] hA H fun b4 a w5 H hA hG hge_b4 => ?_
  clear hge_b4
  refine q_list 2 2 [] [(2, .pointer (some ⟨b2, 0, none⟩)), (3, .pointer (some ⟨b4, 0, none⟩))] ((True) ∧ (True) ∧ True) hA H ⟨trivial, trivial, trivial⟩ fun a w6 hA H hG => ?_
  refine list_end ?_
  refine hK1 _ _ ?_
  refine go_seq fun K7 hK7 => ?_
  refine region_list ?_
  refine q_list 0 2 [(17, .agg #[.int .i64 n, ve]), (18, .agg #[vv, vl])] [(2, .pointer (some ⟨b2, 0, none⟩)), (17, .agg #[.int .i64 n, ve]), (18, .agg #[vv, vl])] (((Try.prog.info? 24).isSome = true ∧ RowOk (On w6) b2 (0) (Try.prog.cellsOf 24) #[.int .i64 n, ve]) ∧ ((Try.prog.info? 29).isSome = true ∧ RowOk (On w6) b4 (0) (Try.prog.cellsOf 29) #[vv, vl]) ∧ True) hA H ⟨⟨by kernel_rfl, by exact box_row H 1 rfl 0 2⟩, ⟨by kernel_rfl, by exact box_row H 0 rfl 0 2⟩, trivial⟩ fun a w8 hA H hG => ?_
  refine list_at 2 ?_; refine q_call 2 19 47 #[.tmp 17, .tmp 18] #[24, 29] [.agg #[.int .i64 n, ve], .agg #[vv, vl]] (fun S v w' => ∃ p, v = .tuple #[p, .int .i64 (partE n E V L)] ∧ Rd S w' p ((blocksE n E V L))) [(2, .pointer (some ⟨b2, 0, none⟩))] hA H (by exact blocks_any n ve E vv vl V L H.at (by omega) ((H.arg hE)) ((H.arg hV)) ((H.arg hL))) fun v9 a w10 S hR11 H hA hG => ?_
  obtain ⟨v9p, rfl, hR11p⟩ := hR11
  replace H := H.ro hR11p
  replace H : Fr _ _ _ [.ro v9p (blocksE n E V L), .box b4 29 [vv, vl], .box b2 24 [.int .i64 n, ve]] := H
  refine q_list 3 5 [] [(2, .pointer (some ⟨b2, 0, none⟩)), (6, v9p), (7, .int .i64 (partE n E V L))] ((True) ∧ (True) ∧ (True) ∧ (True) ∧ (True) ∧ True) hA H ⟨trivial, trivial, trivial, trivial, trivial, trivial⟩ fun a w13 hA H hG => ?_
  refine list_end ?_
  refine hK7 _ _ ?_
  refine go_seq fun K14 hK14 => ?_
  refine go_seq fun K15 hK15 => ?_
  refine q_reg [] [(2, .pointer (some ⟨b2, 0, none⟩)), (6, v9p), (7, .int .i64 (partE n E V L)), (23, .bool (!decide (partE n E V L = 0)))] ((True) ∧ (True) ∧ True) hA H ⟨trivial, trivial, trivial⟩ fun a w16 hA H hG => ?_
  refine hK15 _ _ ?_
  refine go_cond hA (.tmp 23) (!decide (partE n E V L = 0)) (fun hb17 => ?_) (fun hb17 => ?_)
  · have hhb17 := of_decide_eq_false (nT hb17)
    refine go_seq fun K18 hK18 => ?_
    refine q_reg [] [(4, (.slice none 0 0)), (5, .int .i64 (partE n E V L))] ((True) ∧ (True) ∧ (True) ∧ True) hA H ⟨trivial, trivial, trivial, trivial⟩ fun a w19 hA H hG => ?_
    refine hK18 _ _ ?_
    refine go_ret_ ?_
    refine ret_two 4 5 (.slice none 0 0) (.int .i64 (partE n E V L)) hA ?_
    exact ⟨_, rfl, ⟨_, rfl, by unfold cutsE; rw [if_pos hhb17]; exact rd_nil⟩, H.below⟩
  · have hhb17 := of_decide_eq_true (nF hb17)
    refine go_skip ?_
    refine hK14 _ _ ?_
    refine go_seq fun K20 hK20 => ?_
    have hpt : partE n E V L = 0 := by omega
    have hbe : blocksE n E V L = blocksL n E V L := by unfold blocksE; rw [if_neg (by omega)]
    have hr9 := rightE_0 (part_iff.1 hpt).1
    have hbl9 := blocks_len n E V L
    have hl9 := rises_len (part_iff.1 hpt).2.2.1 (by omega)
    have hv9 := rises_len (part_iff.1 hpt).2.1 (by omega)
    simp only [hbe] at H
    refine region_list ?_
    refine q_list 0 2 [(26, .int .i64 n)] [(6, v9p), (26, .int .i64 n)] ((0 < Try.prog.cellsOf 3) ∧ (CellOk (On w16) b2 (0 + 0) (.int .i64 n)) ∧ True) hA H ⟨by decide +kernel, by exact box_cell H 2 rfl 0, trivial⟩ fun a w21 hA H hG => ?_
    refine list_at 2 ?_; refine q_makeA 2 27 27 (.tmp 26) 3 n (.int .i64 0) [(6, v9p)] hA H Try.underlying27 (make_info (by kernel_rfl)) (by omega) (by omega) fun b22 a w23 H hA hG hge_b22 => ?_
    clear hge_b22
    replace H : Fr _ _ _ [.box b22 3 (arrV n fun j => .int .i64 (cnt0 j)), .ro v9p (blocksL n E V L), .box b4 29 [vv, vl], .box b2 24 [.int .i64 n, ve]] := H
    refine q_list 3 1 [] [(6, v9p), (8, (.slice (some ⟨b22, 0, none⟩) n.toNat n.toNat))] ((True) ∧ True) hA H ⟨trivial, trivial⟩ fun a w24 hA H hG => ?_
    refine list_end ?_
    refine hK20 _ _ ?_
    refine go_seq fun K25 hK25 => ?_
    refine go_seq fun K26 hK26 => ?_
    refine q_reg [(29, .int .i64 ((blocksL n E V L).length : Int))] [(8, (.slice (some ⟨b22, 0, none⟩) n.toNat n.toNat)), (28, v9p), (29, .int .i64 ((blocksL n E V L).length : Int)), (30, .int .i64 0)] ((True) ∧ (LenOk v9p ((blocksL n E V L).length : Int)) ∧ (True) ∧ True) hA H ⟨trivial, by exact len_ok (H.get 1 rfl), trivial, trivial⟩ fun a w27 hA H hG => ?_
    refine hK26 _ _ ?_
    refine go_block 0 ?_
    refine go_loop_ (Int × (Int → Int)) (fun x_ a W => (fun (i : Int) (c : (Int → Int)) => EnvOk 64 a (keepEnv [(8, (.slice (some ⟨b22, 0, none⟩) n.toNat n.toNat)), (28, v9p), (29, .int .i64 ((blocksL n E V L).length : Int)), (30, .int .i64 i)]) ∧ (∃ S, Fr o W S [.box b22 3 (arrV n fun j => .int .i64 (c j)), .ro v9p (blocksL n E V L), .box b4 29 [vv, vl], .box b2 24 [.int .i64 n, ve]]) ∧ 0 ≤ i ∧ i ≤ ((blocksL n E V L).length : Int) ∧ ∀ v, c v = cntI ((blocksL n E V L).take i.toNat) v) x_.1 x_.2) (fun x_ => (fun (i : Int) (c : (Int → Int)) => (((blocksL n E V L).length : Int) - i).toNat) x_.1 x_.2) (0, cnt0) ?_ (fun x_ a w29 hI => ?_)
    · (try dsimp only); exact ⟨env_sub _ hA, ⟨_, H⟩, by omega, by omega, fun v => by simp [cnt0, cntI, hasIn]⟩
    obtain ⟨i, c⟩ := x_
    obtain ⟨hA, ⟨S, H⟩, h0, h0b, hc⟩ := hI
    try dsimp only at h0 h0b hc
    refine go_seq fun K30 hK30 => ?_
    refine q_reg [] [(8, (.slice (some ⟨b22, 0, none⟩) n.toNat n.toNat)), (28, v9p), (29, .int .i64 ((blocksL n E V L).length : Int)), (30, .int .i64 i), (31, .bool (decide (i < ((blocksL n E V L).length : Int))))] ((True) ∧ True) hA H ⟨trivial, trivial⟩ fun a w31 hA H hG => ?_
    refine hK30 _ _ ?_
    refine go_seq fun K32 hK32 => ?_
    refine go_cond hA (.tmp 31) (decide (i < ((blocksL n E V L).length : Int))) (fun hb33 => ?_) (fun hb33 => ?_)
    · have hhb33 := of_decide_eq_true hb33
      refine go_skip ?_
      refine hK32 _ _ ?_
      refine go_seq fun K34 hK34 => ?_
      refine go_block 1 ?_
      refine go_seq fun K35 hK35 => ?_
      have hbm := getD_mem (l := blocksL n E V L) (i := i.toNat) (d := ([], [])) (by omega)
      obtain ⟨q1, q2, q3, q4⟩ := block_rises hpt hbm
      have q5 := rises_len q1 (by omega); have q6 := rises_len q2 (by omega)
      refine region_list ?_
      obtain ⟨ea36, eb37, hea36c, hea36a, hea36b⟩ := cell_twoC (C := On w31) H.keepsS (H.getS 1 rfl) i
      replace H := (H.ro (hea36a (by omega) (by omega))).sink 1 4
      replace H := (H.ro (hea36b (by omega) (by omega))).sink 1 5
      replace H : Fr _ _ _ [.box b22 3 (arrV n fun j => .int .i64 (c j)), .ro v9p (blocksL n E V L), .box b4 29 [vv, vl], .box b2 24 [.int .i64 n, ve], .ro ea36 ((blocksL n E V L).getD i.toNat ([], [])).1, .ro eb37 ((blocksL n E V L).getD i.toNat ([], [])).2] := H
      refine q_list 0 2 [(33, .agg #[ea36, eb37])] [(8, (.slice (some ⟨b22, 0, none⟩) n.toNat n.toNat)), (28, v9p), (29, .int .i64 ((blocksL n E V L).length : Int)), (30, .int .i64 i), (33, .agg #[ea36, eb37])] (((Try.prog.info? 29).isSome = true ∧ IdxOk v9p i) ∧ ((Try.prog.info? 29).isSome = true ∧ RowOk (On w31) (hdB v9p) (hdO v9p + i.toNat * 2) (Try.prog.cellsOf 29) #[ea36, eb37]) ∧ True) hA H ⟨⟨by kernel_rfl, by exact idx_ok (H.get 1 rfl) (by omega) (by omega)⟩, ⟨by kernel_rfl, by exact hea36c (by omega) (by omega)⟩, trivial⟩ fun a w38 hA H hG => ?_
      refine list_at 2 ?_; refine q_alloc 2 10 29 [(.slice none 0 0), (.slice none 0 0)] [(8, (.slice (some ⟨b22, 0, none⟩) n.toNat n.toNat)), (28, v9p), (29, .int .i64 ((blocksL n E V L).length : Int)), (30, .int .i64 i), (33, .agg #[ea36, eb37])] hA H fun b39 a w40 H hA hG hge_b39 => ?_
      clear hge_b39
      refine list_at 3 ?_; refine q_store 3 29 (.tmp 10) (.tmp 33) 0 b39 (0) 29 [(.slice none 0 0), (.slice none 0 0)] [ea36, eb37] [ea36, eb37] (.agg #[ea36, eb37]) [(8, (.slice (some ⟨b22, 0, none⟩) n.toNat n.toNat)), (10, .pointer (some ⟨b39, 0, none⟩)), (28, v9p), (29, .int .i64 ((blocksL n E V L).length : Int)), (30, .int .i64 i)] hA H rfl rfl (Nat.le_of_ble_eq_true (by kernel_rfl)) rfl (fun v hv => by simp only [List.mem_cons, List.not_mem_nil, or_false] at hv; rcases hv with rfl | rfl; exact (rd_one (H.get 5 rfl)); exact (rd_one (H.get 6 rfl))) fun a w41 H hA hG => ?_
      replace H : Fr _ _ _ [.box b39 29 [ea36, eb37], .box b22 3 (arrV n fun j => .int .i64 (c j)), .ro v9p (blocksL n E V L), .box b4 29 [vv, vl], .box b2 24 [.int .i64 n, ve], .ro ea36 ((blocksL n E V L).getD i.toNat ([], [])).1, .ro eb37 ((blocksL n E V L).getD i.toNat ([], [])).2] := H
      refine list_end ?_
      refine hK35 _ _ ?_
      refine go_seq fun K42 hK42 => ?_
      refine q_reg [(35, ea36), (36, .int .i64 ((((blocksL n E V L).getD i.toNat ([], [])).1).length : Int))] [(8, (.slice (some ⟨b22, 0, none⟩) n.toNat n.toNat)), (28, v9p), (29, .int .i64 ((blocksL n E V L).length : Int)), (30, .int .i64 i), (35, ea36), (36, .int .i64 ((((blocksL n E V L).getD i.toNat ([], [])).1).length : Int)), (37, .int .i64 0)] ((0 < Try.prog.cellsOf 27) ∧ (CellOk (On w41) b39 (0 + 0) (ea36)) ∧ (LenOk ea36 ((((blocksL n E V L).getD i.toNat ([], [])).1).length : Int)) ∧ (True) ∧ True) hA H ⟨by decide +kernel, by exact box_cell H 0 rfl 0, by exact len_ok (H.get 5 rfl), trivial, trivial⟩ fun a w43 hA H hG => ?_
      refine hK42 _ _ ?_
      refine go_block 2 ?_
      refine go_loop_ (Int × (Int → Int)) (fun x_ a W => (fun (k : Int) (d : (Int → Int)) => EnvOk 64 a (keepEnv [(8, (.slice (some ⟨b22, 0, none⟩) n.toNat n.toNat)), (28, v9p), (29, .int .i64 ((blocksL n E V L).length : Int)), (30, .int .i64 i), (35, ea36), (36, .int .i64 ((((blocksL n E V L).getD i.toNat ([], [])).1).length : Int)), (37, .int .i64 k)]) ∧ (∃ S, Fr o W S [.box b39 29 [ea36, eb37], .box b22 3 (arrV n fun j => .int .i64 (d j)), .ro v9p (blocksL n E V L), .box b4 29 [vv, vl], .box b2 24 [.int .i64 n, ve], .ro ea36 ((blocksL n E V L).getD i.toNat ([], [])).1, .ro eb37 ((blocksL n E V L).getD i.toNat ([], [])).2]) ∧ 0 ≤ k ∧ ∀ v, d v = cntI ((blocksL n E V L).take i.toNat) v + (if v ∈ ((blocksL n E V L).getD i.toNat ([], [])).1.take k.toNat then 1 else 0)) x_.1 x_.2) (fun x_ => (fun (k : Int) (d : (Int → Int)) => ((((blocksL n E V L).getD i.toNat ([], [])).1.length : Int) - k).toNat) x_.1 x_.2) (0, c) ?_ (fun x_ a w45 hI => ?_)
      · (try dsimp only); exact ⟨env_sub _ hA, ⟨_, H⟩, by omega, fun v => by rw [hc v]; simp⟩
      obtain ⟨k, d⟩ := x_
      obtain ⟨hA, ⟨S, H⟩, k0, hd⟩ := hI
      try dsimp only at k0 hd
      refine go_seq fun K46 hK46 => ?_
      refine q_reg [] [(8, (.slice (some ⟨b22, 0, none⟩) n.toNat n.toNat)), (28, v9p), (29, .int .i64 ((blocksL n E V L).length : Int)), (30, .int .i64 i), (35, ea36), (36, .int .i64 ((((blocksL n E V L).getD i.toNat ([], [])).1).length : Int)), (37, .int .i64 k), (38, .bool (decide (k < ((((blocksL n E V L).getD i.toNat ([], [])).1).length : Int))))] ((True) ∧ True) hA H ⟨trivial, trivial⟩ fun a w47 hA H hG => ?_
      refine hK46 _ _ ?_
      refine go_seq fun K48 hK48 => ?_
      refine go_cond hA (.tmp 38) (decide (k < ((((blocksL n E V L).getD i.toNat ([], [])).1).length : Int))) (fun hb49 => ?_) (fun hb49 => ?_)
      · have hhb49 := of_decide_eq_true hb49
        refine go_skip ?_
        refine hK48 _ _ ?_
        refine go_seq fun K50 hK50 => ?_
        refine go_block 3 ?_
        refine go_seq fun K51 hK51 => ?_
        have hx9 := (rises_iff.1 q1).2 _ (mem_getD.2 ⟨k.toNat, by omega, rfl⟩)
        refine q_reg [(40, .int .i64 ((((blocksL n E V L).getD i.toNat ([], [])).1).getD k.toNat 0))] [(8, (.slice (some ⟨b22, 0, none⟩) n.toNat n.toNat)), (12, .int .i64 ((((blocksL n E V L).getD i.toNat ([], [])).1).getD k.toNat 0)), (28, v9p), (29, .int .i64 ((blocksL n E V L).length : Int)), (30, .int .i64 i), (35, ea36), (36, .int .i64 ((((blocksL n E V L).getD i.toNat ([], [])).1).length : Int)), (37, .int .i64 k)] (((Try.prog.info? 3).isSome = true ∧ IdxOk ea36 k) ∧ (CellOk (On w47) (hdB ea36) (hdO ea36 + k.toNat * 1) (.int .i64 ((((blocksL n E V L).getD i.toNat ([], [])).1).getD k.toNat 0))) ∧ (True) ∧ True) hA H ⟨⟨by kernel_rfl, by exact idx_ok (H.get 5 rfl) (by omega) (by omega)⟩, by exact cell_flat (i := k) (H.get 5 rfl) (by omega) (by omega) 0 0, trivial, trivial⟩ fun a w52 hA H hG => ?_
        refine hK51 _ _ ?_
        have hd9 := hd (((blocksL n E V L).getD i.toNat ([], [])).1.getD k.toNat 0)
        have hd8 := cntI_le ((blocksL n E V L).take i.toNat) (((blocksL n E V L).getD i.toNat ([], [])).1.getD k.toNat 0)
        rw [List.length_take] at hd8
        have hd7 : (0 : Int) ≤ d (((blocksL n E V L).getD i.toNat ([], [])).1.getD k.toNat 0) ∧ d (((blocksL n E V L).getD i.toNat ([], [])).1.getD k.toNat 0) ≤ 1000000 := by rw [hd9]; split <;> omega
        refine region_list ?_
        refine q_list 0 6 [(44, .int .i64 (d ((((blocksL n E V L).getD i.toNat ([], [])).1).getD k.toNat 0)))] [(8, (.slice (some ⟨b22, 0, none⟩) n.toNat n.toNat)), (28, v9p), (29, .int .i64 ((blocksL n E V L).length : Int)), (30, .int .i64 i), (35, ea36), (36, .int .i64 ((((blocksL n E V L).getD i.toNat ([], [])).1).length : Int)), (37, .int .i64 k), (45, .int .i64 ((d ((((blocksL n E V L).getD i.toNat ([], [])).1).getD k.toNat 0)) + 1)), (46, .pointer (some ⟨b22, 0 + ((((blocksL n E V L).getD i.toNat ([], [])).1).getD k.toNat 0).toNat * 1, none⟩))] ((True) ∧ (True) ∧ ((Try.prog.info? 3).isSome = true ∧ IdxOk (.slice (some ⟨b22, 0, none⟩) n.toNat n.toNat) ((((blocksL n E V L).getD i.toNat ([], [])).1).getD k.toNat 0)) ∧ (CellOk (On w52) b22 (0 + ((((blocksL n E V L).getD i.toNat ([], [])).1).getD k.toNat 0).toNat * 1) (.int .i64 (d ((((blocksL n E V L).getD i.toNat ([], [])).1).getD k.toNat 0)))) ∧ (InR .i64 ((d ((((blocksL n E V L).getD i.toNat ([], [])).1).getD k.toNat 0)) + 1)) ∧ ((Try.prog.info? 3).isSome = true ∧ IdxOk (.slice (some ⟨b22, 0, none⟩) n.toNat n.toNat) ((((blocksL n E V L).getD i.toNat ([], [])).1).getD k.toNat 0)) ∧ True) hA H ⟨trivial, trivial, ⟨by kernel_rfl, arr_idx (by omega) (by omega)⟩, by exact arr_cell H 1 rfl (by omega) (by omega), ⟨by omega, by omega⟩, ⟨by kernel_rfl, arr_idx (by omega) (by omega)⟩, trivial⟩ fun a w53 hA H hG => ?_
        refine list_at 6 ?_; refine q_store 6 3 (.tmp 46) (.tmp 45) 1 b22 (0 + ((((blocksL n E V L).getD i.toNat ([], [])).1).getD k.toNat 0).toNat * 1) 3 ((arrV n fun j => .int .i64 (d j))) [.int .i64 ((d ((((blocksL n E V L).getD i.toNat ([], [])).1).getD k.toNat 0)) + 1)] ((arrV n fun j => .int .i64 ((Deep.upd d ((((blocksL n E V L).getD i.toNat ([], [])).1).getD k.toNat 0) ((d ((((blocksL n E V L).getD i.toNat ([], [])).1).getD k.toNat 0)) + 1)) j))) (.int .i64 ((d ((((blocksL n E V L).getD i.toNat ([], [])).1).getD k.toNat 0)) + 1)) [(8, (.slice (some ⟨b22, 0, none⟩) n.toNat n.toNat)), (28, v9p), (29, .int .i64 ((blocksL n E V L).length : Int)), (30, .int .i64 i), (35, ea36), (36, .int .i64 ((((blocksL n E V L).getD i.toNat ([], [])).1).length : Int)), (37, .int .i64 k)] hA H rfl rfl (arr_room (by omega) (by omega)) (arr_set (by omega) (by omega) (congrArg (Value.int .i64) (Deep.upd_same _ _ _)) (fun j hj => congrArg (Value.int .i64) (Deep.upd_ne _ _ hj))) (fun v hv => by simp only [List.mem_cons, List.not_mem_nil, or_false] at hv; rcases hv with rfl; exact rfl) fun a w54 H hA hG => ?_
        replace H : Fr _ _ _ [.box b39 29 [ea36, eb37], .box b22 3 (arrV n fun j => .int .i64 ((Deep.upd d ((((blocksL n E V L).getD i.toNat ([], [])).1).getD k.toNat 0) ((d ((((blocksL n E V L).getD i.toNat ([], [])).1).getD k.toNat 0)) + 1)) j)), .ro v9p (blocksL n E V L), .box b4 29 [vv, vl], .box b2 24 [.int .i64 n, ve], .ro ea36 ((blocksL n E V L).getD i.toNat ([], [])).1, .ro eb37 ((blocksL n E V L).getD i.toNat ([], [])).2] := H
        refine list_end ?_
        refine hK50 _ _ ?_
        refine q_reg [] [(8, (.slice (some ⟨b22, 0, none⟩) n.toNat n.toNat)), (28, v9p), (29, .int .i64 ((blocksL n E V L).length : Int)), (30, .int .i64 i), (35, ea36), (36, .int .i64 ((((blocksL n E V L).getD i.toNat ([], [])).1).length : Int)), (37, .int .i64 (k + 1))] ((InR .i64 (k + 1)) ∧ (True) ∧ True) hA H ⟨⟨by omega, by omega⟩, trivial, trivial⟩ fun a w55 hA H hG => ?_
        refine ⟨(k + 1, Deep.upd d ((((blocksL n E V L).getD i.toNat ([], [])).1).getD k.toNat 0) ((d ((((blocksL n E V L).getD i.toNat ([], [])).1).getD k.toNat 0)) + 1)), ⟨env_sub _ hA, ⟨_, H⟩, ?_⟩, ?_⟩
        · (try dsimp only); exact ⟨by omega, fun v => cnt_step k0 (by omega) (asc_nodup (rises_iff.1 q1).1) hd v⟩
        · (try dsimp only); omega
      · have hhb49 := of_decide_eq_false hb49
        refine go_exit 2 ?_
        refine hK34 _ _ ?_
        refine q_reg [] [(8, (.slice (some ⟨b22, 0, none⟩) n.toNat n.toNat)), (28, v9p), (29, .int .i64 ((blocksL n E V L).length : Int)), (30, .int .i64 (i + 1))] ((InR .i64 (i + 1)) ∧ (True) ∧ True) hA H ⟨⟨by omega, by omega⟩, trivial, trivial⟩ fun a w56 hA H hG => ?_
        replace H := H.drop 6
        replace H := H.drop 5
        replace H := H.drop 0
        refine ⟨(i + 1, d), ⟨env_sub _ hA, ⟨_, H⟩, ?_⟩, ?_⟩
        · (try dsimp only); exact ⟨by omega, by omega, fun v => by rw [hd v, show ((blocksL n E V L).getD i.toNat ([], [])).1.take k.toNat = ((blocksL n E V L).getD i.toNat ([], [])).1 from List.take_of_length_le (by omega), cntI_snoc h0 (by omega)]⟩
        · (try dsimp only); omega
    · have hhb33 := of_decide_eq_false hb33
      refine go_exit 0 ?_
      refine hK25 _ _ ?_
      refine go_seq fun K57 hK57 => ?_
      refine q_reg [] [(8, (.slice (some ⟨b22, 0, none⟩) n.toNat n.toNat)), (13, (.slice none 0 0))] ((True) ∧ True) hA H ⟨trivial, trivial⟩ fun a w58 hA H hG => ?_
      refine hK57 _ _ ?_
      refine go_seq fun K59 hK59 => ?_
      refine go_seq fun K60 hK60 => ?_
      refine q_reg [(50, .int .i64 n)] [(13, (.slice none 0 0)), (49, (.slice (some ⟨b22, 0, none⟩) n.toNat n.toNat)), (50, .int .i64 n), (51, .int .i64 0)] ((True) ∧ (LenOk (.slice (some ⟨b22, 0, none⟩) n.toNat n.toNat) n) ∧ (True) ∧ True) hA H ⟨trivial, arr_len_ok (by omega), trivial, trivial⟩ fun a w61 hA H hG => ?_
      refine hK60 _ _ ?_
      refine go_block 4 ?_
      replace H := H.newRow (α := Int) 3
      refine go_loop_ (Int × Value × List Int) (fun x_ a W => (fun (j : Int) (vr : Value) (l : List Int) => EnvOk 64 a (keepEnv [(13, vr), (49, (.slice (some ⟨b22, 0, none⟩) n.toNat n.toNat)), (50, .int .i64 n), (51, .int .i64 j)]) ∧ (∃ S, Fr o W S [.row 3 vr l, .box b22 3 (arrV n fun j => .int .i64 (c j)), .ro v9p (blocksL n E V L), .box b4 29 [vv, vl], .box b2 24 [.int .i64 n, ve]]) ∧ 0 ≤ j ∧ j ≤ n ∧ (l.length : Int) ≤ j ∧ l = (upto j).filter (fun v => decide (1 < cntI (blocksL n E V L) v))) x_.1 x_.2.1 x_.2.2) (fun x_ => (fun (j : Int) (vr : Value) (l : List Int) => (n - j).toNat) x_.1 x_.2.1 x_.2.2) (0, .slice none 0 0, []) ?_ (fun x_ a w63 hI => ?_)
      · (try dsimp only); exact ⟨env_sub _ hA, ⟨_, H⟩, by omega, by omega, by simp, rfl⟩
      obtain ⟨j, vr, l⟩ := x_
      obtain ⟨hA, ⟨S, H⟩, j0, j0b, j1, hj⟩ := hI
      try dsimp only at j0 j0b j1 hj
      refine go_seq fun K64 hK64 => ?_
      refine q_reg [] [(13, vr), (49, (.slice (some ⟨b22, 0, none⟩) n.toNat n.toNat)), (50, .int .i64 n), (51, .int .i64 j), (52, .bool (decide (j < n)))] ((True) ∧ True) hA H ⟨trivial, trivial⟩ fun a w65 hA H hG => ?_
      refine hK64 _ _ ?_
      refine go_seq fun K66 hK66 => ?_
      refine go_cond hA (.tmp 52) (decide (j < n)) (fun hb67 => ?_) (fun hb67 => ?_)
      · have hhb67 := of_decide_eq_true hb67
        refine go_skip ?_
        refine hK66 _ _ ?_
        refine go_seq fun K68 hK68 => ?_
        refine go_block 5 ?_
        refine go_seq fun K69 hK69 => ?_
        refine q_reg [(55, .int .i64 (c j))] [(13, vr), (14, .int .i64 j), (15, .int .i64 (c j)), (49, (.slice (some ⟨b22, 0, none⟩) n.toNat n.toNat)), (50, .int .i64 n), (51, .int .i64 j)] ((True) ∧ ((Try.prog.info? 3).isSome = true ∧ IdxOk (.slice (some ⟨b22, 0, none⟩) n.toNat n.toNat) j) ∧ (CellOk (On w65) b22 (0 + j.toNat * 1) (.int .i64 (c j))) ∧ (True) ∧ (True) ∧ True) hA H ⟨trivial, ⟨by kernel_rfl, arr_idx (by omega) (by omega)⟩, by exact arr_cell H 1 rfl (by omega) (by omega), trivial, trivial, trivial⟩ fun a w70 hA H hG => ?_
        refine hK69 _ _ ?_
        refine go_seq fun K71 hK71 => ?_
        refine q_reg [] [(13, vr), (14, .int .i64 j), (49, (.slice (some ⟨b22, 0, none⟩) n.toNat n.toNat)), (50, .int .i64 n), (51, .int .i64 j), (57, .bool (decide ((1 : Int) < c j)))] ((True) ∧ (True) ∧ True) hA H ⟨trivial, trivial, trivial⟩ fun a w72 hA H hG => ?_
        refine hK71 _ _ ?_
        refine go_cond hA (.tmp 57) (decide ((1 : Int) < c j)) (fun hb73 => ?_) (fun hb73 => ?_)
        · have hhb73 := of_decide_eq_true hb73
          refine region_list ?_
          refine q_list 0 2 [] [(49, (.slice (some ⟨b22, 0, none⟩) n.toNat n.toNat)), (50, .int .i64 n), (51, .int .i64 j), (58, vr), (59, .int .i64 j)] ((True) ∧ (True) ∧ True) hA H ⟨trivial, trivial, trivial⟩ fun a w74 hA H hG => ?_
          refine list_at 2 ?_; refine q_lit 2 60 27 1 #[(0, .tmp 59)] 3 [(0, .int .i64 j)] [.int .i64 j] [(49, (.slice (some ⟨b22, 0, none⟩) n.toNat n.toNat)), (50, .int .i64 n), (51, .int .i64 j), (58, vr)] hA H fun b75 a w76 H hA hG hge_b75 => ?_
          clear hge_b75
          refine list_at 3 ?_; refine q_push 3 61 (.tmp 58) (.tmp 60) 1 0 b75 1 1 vr l [j] [.int .i64 j] [(49, (.slice (some ⟨b22, 0, none⟩) n.toNat n.toNat)), (50, .int .i64 n), (51, .int .i64 j)] hA H Try.E27 rfl rfl (by exact (RowRd.single (α := Int) rfl)) rfl (by simp only [List.length_cons, List.length_nil, List.length_append]; omega) (by decide) fun v77 a w78 H hA hG => ?_
          replace H : Fr _ _ _ [.row 3 v77 (l ++ [j]), .box b22 3 (arrV n fun j => .int .i64 (c j)), .ro v9p (blocksL n E V L), .box b4 29 [vv, vl], .box b2 24 [.int .i64 n, ve]] := H.drop 0
          refine q_list 4 1 [] [(13, v77), (49, (.slice (some ⟨b22, 0, none⟩) n.toNat n.toNat)), (50, .int .i64 n), (51, .int .i64 j)] ((True) ∧ True) hA H ⟨trivial, trivial⟩ fun a w79 hA H hG => ?_
          refine list_end ?_
          refine hK68 _ _ ?_
          refine q_reg [] [(13, v77), (49, (.slice (some ⟨b22, 0, none⟩) n.toNat n.toNat)), (50, .int .i64 n), (51, .int .i64 (j + 1))] ((InR .i64 (j + 1)) ∧ (True) ∧ True) hA H ⟨⟨by omega, by omega⟩, trivial, trivial⟩ fun a w80 hA H hG => ?_
          refine ⟨(j + 1, v77, l ++ [j]), ⟨env_sub _ hA, ⟨_, H⟩, ?_⟩, ?_⟩
          · (try dsimp only); exact ⟨by omega, by omega, by (try simp only [List.length_append, List.length_cons, List.length_nil]); omega, by rw [hj, upto_succ j0, List.filter_append, List.filter_cons]; rw [hc j, List.take_of_length_le (by omega)] at hhb73; rw [if_pos (decide_eq_true hhb73)]; rfl⟩
          · (try dsimp only); omega
        · have hhb73 := of_decide_eq_false hb73
          refine go_skip ?_
          refine hK68 _ _ ?_
          refine q_reg [] [(13, vr), (49, (.slice (some ⟨b22, 0, none⟩) n.toNat n.toNat)), (50, .int .i64 n), (51, .int .i64 (j + 1))] ((InR .i64 (j + 1)) ∧ (True) ∧ True) hA H ⟨⟨by omega, by omega⟩, trivial, trivial⟩ fun a w81 hA H hG => ?_
          refine ⟨(j + 1, vr, l), ⟨env_sub _ hA, ⟨_, H⟩, ?_⟩, ?_⟩
          · (try dsimp only); exact ⟨by omega, by omega, by (try simp only [List.length_append, List.length_cons, List.length_nil]); omega, by rw [hj, upto_succ j0, List.filter_append, List.filter_cons]; rw [hc j, List.take_of_length_le (by omega)] at hhb73; rw [if_neg (by rw [decide_eq_true_eq]; exact hhb73)]; simp⟩
          · (try dsimp only); omega
      · have hhb67 := of_decide_eq_false hb67
        refine go_exit 4 ?_
        refine hK59 _ _ ?_
        refine go_seq fun K82 hK82 => ?_
        refine q_reg [] [(4, vr), (5, .int .i64 0)] ((True) ∧ (True) ∧ (True) ∧ True) hA H ⟨trivial, trivial, trivial, trivial⟩ fun a w83 hA H hG => ?_
        refine hK82 _ _ ?_
        refine go_ret_ ?_
        refine ret_two 4 5 vr (.int .i64 0) hA ?_
        have ho := (H.give 0 rfl)
        obtain rfl : j = n := by omega
        rw [cuts_upto hpt] at hj; rw [hj] at ho; exact ⟨_, rfl, ⟨_, by rw [hpt], by unfold cutsE; rw [if_neg (by omega)]; exact ho⟩, H.below⟩

end Go.Proofs.Ytahonnlgkmimlaa

set_option linter.unusedSimpArgs false
set_option linter.unusedVariables false
namespace Go.Proofs.Ytahonnlgkmimlaa
open Go.RowKit

set_option maxRecDepth 100000 in
set_option maxHeartbeats 4000000 in
theorem solid_any (n : Int) (ve : Value) (E : List (Int × Int)) (vv vl : Value) (V L : List Int) (w : World) (hn : -9223372036854775808 ≤ n ∧ n ≤ 9223372036854775807) (hE : Rd (· < w.heap.size) w ve E) (hV : Rd (· < w.heap.size) w vv V) (hL : Rd (· < w.heap.size) w vl L) :
  Calls Try.prog 50 [.agg #[.int .i64 n, ve], .agg #[vv, vl]].toArray w (Ans (.bool (solidB n E V L)) w) := by
  refine enter Try.f50 27 Try.func50 fun a hA => ?_
  replace hA := env_sub [(0, .agg #[.int .i64 n, ve]), (1, .agg #[vv, vl])] hA
  have H := Fr.start (org w)
  refine go_seq fun K1 hK1 => ?_
  refine region_list ?_
  refine list_at 0 ?_; refine q_box 0 2 24 (.tmp 0) (.agg #[.int .i64 n, ve]) [.int .i64 n, ve] [(1, .agg #[vv, vl])] hA H fun b2 a w3 H hA hG hge_b2 => ?_
  clear hge_b2
  refine list_at 1 ?_; refine q_box 1 3 29 (.tmp 1) (.agg #[vv, vl]) [vv, vl] [(2, .pointer (some ⟨b2, 0, none⟩))] hA H fun b4 a w5 H hA hG hge_b4 => ?_
  clear hge_b4
  refine q_list 2 1 [] [(2, .pointer (some ⟨b2, 0, none⟩)), (3, .pointer (some ⟨b4, 0, none⟩))] ((True) ∧ True) hA H ⟨trivial, trivial⟩ fun a w6 hA H hG => ?_
  refine list_end ?_
  refine hK1 _ _ ?_
  refine go_seq fun K7 hK7 => ?_
  refine region_list ?_
  refine q_list 0 2 [(8, .agg #[.int .i64 n, ve]), (9, .agg #[vv, vl])] [(3, .pointer (some ⟨b4, 0, none⟩)), (8, .agg #[.int .i64 n, ve]), (9, .agg #[vv, vl])] (((Try.prog.info? 24).isSome = true ∧ RowOk (On w6) b2 (0) (Try.prog.cellsOf 24) #[.int .i64 n, ve]) ∧ ((Try.prog.info? 29).isSome = true ∧ RowOk (On w6) b4 (0) (Try.prog.cellsOf 29) #[vv, vl]) ∧ True) hA H ⟨⟨by kernel_rfl, by exact box_row H 1 rfl 0 2⟩, ⟨by kernel_rfl, by exact box_row H 0 rfl 0 2⟩, trivial⟩ fun a w8 hA H hG => ?_
  refine list_at 2 ?_; refine q_call 2 10 47 #[.tmp 8, .tmp 9] #[24, 29] [.agg #[.int .i64 n, ve], .agg #[vv, vl]] (fun S v w' => ∃ p, v = .tuple #[p, .int .i64 (partE n E V L)] ∧ Rd S w' p ((blocksE n E V L))) [(3, .pointer (some ⟨b4, 0, none⟩))] hA H (by exact blocks_any n ve E vv vl V L H.at (by omega) ((H.arg hE)) ((H.arg hV)) ((H.arg hL))) fun v9 a w10 S hR11 H hA hG => ?_
  obtain ⟨v9p, rfl, hR11p⟩ := hR11
  replace H := H.ro hR11p
  replace H : Fr _ _ _ [.ro v9p (blocksE n E V L), .box b4 29 [vv, vl], .box b2 24 [.int .i64 n, ve]] := H
  refine q_list 3 5 [] [(3, .pointer (some ⟨b4, 0, none⟩)), (5, v9p), (6, .int .i64 (partE n E V L))] ((True) ∧ (True) ∧ (True) ∧ (True) ∧ (True) ∧ True) hA H ⟨trivial, trivial, trivial, trivial, trivial, trivial⟩ fun a w13 hA H hG => ?_
  refine list_end ?_
  refine hK7 _ _ ?_
  refine go_seq fun K14 hK14 => ?_
  obtain ⟨ea15, eb16, hea15c, hea15a, hea15b⟩ := cell_twoC (C := On w13) H.keepsS (H.getS 0 rfl) (0 : Int)
  refine q_draw [(17, .int .i64 ((blocksE n E V L).length : Int)), (23, .agg #[ea15, eb16]), (24, .agg #[vv, vl]), (25, .bool (decide ((((blocksE n E V L).getD (0 : Int).toNat ([], [])).1) = V) && decide ((((blocksE n E V L).getD (0 : Int).toNat ([], [])).2) = L)))] [(4, .bool (((decide (partE n E V L = 0)) && (decide (((blocksE n E V L).length : Int) = 1))) && (decide ((((blocksE n E V L).getD (0 : Int).toNat ([], [])).1) = V) && decide ((((blocksE n E V L).getD (0 : Int).toNat ([], [])).2) = L))))] ((True) ∧ (True) ∧ (True) ∧ ((decide (partE n E V L = 0)) = true → True) ∧ ((decide (partE n E V L = 0)) = true → LenOk v9p ((blocksE n E V L).length : Int)) ∧ ((decide (partE n E V L = 0)) = true → True) ∧ (True) ∧ (True) ∧ (((decide (partE n E V L = 0)) && (decide (((blocksE n E V L).length : Int) = 1))) = true → True) ∧ (((decide (partE n E V L = 0)) && (decide (((blocksE n E V L).length : Int) = 1))) = true → (Try.prog.info? 29).isSome = true ∧ IdxOk v9p 0) ∧ (((decide (partE n E V L = 0)) && (decide (((blocksE n E V L).length : Int) = 1))) = true → (Try.prog.info? 29).isSome = true ∧ RowOk (On w13) (hdB v9p) (hdO v9p + (0 : Int).toNat * 2) (Try.prog.cellsOf 29) #[ea15, eb16]) ∧ (((decide (partE n E V L = 0)) && (decide (((blocksE n E V L).length : Int) = 1))) = true → (Try.prog.info? 29).isSome = true ∧ RowOk (On w13) b4 (0) (Try.prog.cellsOf 29) #[vv, vl]) ∧ (((decide (partE n E V L = 0)) && (decide (((blocksE n E V L).length : Int) = 1))) = true → Callable Try.prog 28 ∧ CallOk Try.prog (On w13) 28 [.agg #[ea15, eb16], .agg #[vv, vl]].toArray (.bool (decide ((((blocksE n E V L).getD (0 : Int).toNat ([], [])).1) = V) && decide ((((blocksE n E V L).getD (0 : Int).toNat ([], [])).2) = L)))) ∧ (True) ∧ (True) ∧ True) hA H ⟨trivial, trivial, trivial, fun _ => trivial, fun _ => by exact len_ok (H.get 0 rfl), fun _ => trivial, trivial, trivial, fun _ => trivial, fun hg0 => by replace hg0 := (⟨of_decide_eq_true ((aT hg0).1), of_decide_eq_true ((aT hg0).2)⟩ : _ ∧ _); exact ⟨by kernel_rfl, by exact idx_ok (H.get 0 rfl) (by omega) (by omega)⟩, fun hg0 => by replace hg0 := (⟨of_decide_eq_true ((aT hg0).1), of_decide_eq_true ((aT hg0).2)⟩ : _ ∧ _); exact ⟨by kernel_rfl, by exact hea15c (by omega) (by omega)⟩, fun _ => ⟨by kernel_rfl, by exact box_row H 1 rfl 0 2⟩, fun hg0 => by replace hg0 := (⟨of_decide_eq_true ((aT hg0).1), of_decide_eq_true ((aT hg0).2)⟩ : _ ∧ _); exact ⟨callable_of, callOk_of fun w hw => by exact same_any ea15 eb16 vv vl (((blocksE n E V L).getD (0 : Int).toNat ([], [])).1) (((blocksE n E V L).getD (0 : Int).toNat ([], [])).2) V L w ((rd_on (Rd.up H.inb (hea15a (by omega) (by omega))) hw)) ((rd_on (Rd.up H.inb (hea15b (by omega) (by omega))) hw)) (((H.on hw).arg hV)) (((H.on hw).arg hL))⟩, trivial, trivial, trivial⟩ fun a w17 hA H hG => ?_
  refine hK14 _ _ ?_
  refine go_ret_ ?_
  refine ret_one 4 (.bool (((decide (partE n E V L = 0)) && (decide (((blocksE n E V L).length : Int) = 1))) && (decide ((((blocksE n E V L).getD (0 : Int).toNat ([], [])).1) = V) && decide ((((blocksE n E V L).getD (0 : Int).toNat ([], [])).2) = L)))) hA ?_
  exact ans_b' rfl H.below

end Go.Proofs.Ytahonnlgkmimlaa

set_option linter.unusedSimpArgs false
set_option linter.unusedVariables false
namespace Go.Proofs.Ytahonnlgkmimlaa
open Go.RowKit Go.Proofs.Ytahonnlgkmimlaa.Deep

abbrev awBE : List (Int × Int) := [(0, 1), (1, 2), (2, 0), (2, 3), (3, 4), (4, 2), (0, 0)]
theorem awB_blocks : blocksE 5 awBE (upto 5) (upto (awBE.length : Int)) = [([0, 1, 2], [0, 1, 2]), ([2, 3, 4], [3, 4, 5]), ([0], [6])] := by decide +kernel
theorem awB_part : partE 5 awBE (upto 5) (upto (awBE.length : Int)) = 0 := by decide +kernel
theorem awB_cuts : cutsE 5 awBE (upto 5) (upto (awBE.length : Int)) = [0, 2] := by decide +kernel

def sumI (bs : List (List Int × List Int)) : Int := ((bs.map fun b => b.2.length).sum : Nat)
section
variable {n : Int} {E : List (Int × Int)} {V L : List Int}
theorem sumI_snoc {bs : List (List Int × List Int)} {i : Int} (h0 : 0 ≤ i) (h1 : i < (bs.length : Int)) : sumI (bs.take (i + 1).toNat) = sumI (bs.take i.toNat) + ((bs.getD i.toNat ([], [])).2.length : Int) := by
  unfold sumI
  rw [take_snocD (d := ([], [])) h0 h1, List.map_append, List.sum_append]
  simp
theorem sumI_all (hp : partE n E V L = 0) : sumI (blocksL n E V L) = (L.length : Int) := by unfold sumI; rw [blocks_sum hp]
theorem sumI_le (hp : partE n E V L = 0) (i : Nat) : 0 ≤ sumI ((blocksL n E V L).take i) ∧ sumI ((blocksL n E V L).take i) ≤ (L.length : Int) := by
  have h := blocks_sum hp
  have e : ((blocksL n E V L).map fun b => b.2.length).sum = (((blocksL n E V L).take i).map fun b => b.2.length).sum + (((blocksL n E V L).drop i).map fun b => b.2.length).sum := by
    rw [← List.sum_append, ← List.map_append, List.take_append_drop]
  unfold sumI
  omega
theorem hasIn_at {bs : List (List Int × List Int)} {i x : Int} (h0 : 0 ≤ i) (h1 : i < (bs.length : Int)) (hx : x ∈ (bs.getD i.toNat ([], [])).1) :
    (hasIn (bs.take i.toNat) x).length < (hasIn bs x).length ∧ (hasIn bs x).getD (hasIn (bs.take i.toNat) x).length ([], []) = bs.getD i.toNat ([], []) := by
  have e : hasIn bs x = hasIn (bs.take i.toNat) x ++ bs.getD i.toNat ([], []) :: hasIn (bs.drop (i + 1).toNat) x := by
    conv => lhs; rw [← List.take_append_drop (i + 1).toNat bs]
    have : hasIn (bs.take (i + 1).toNat ++ bs.drop (i + 1).toNat) x = hasIn (bs.take (i + 1).toNat) x ++ hasIn (bs.drop (i + 1).toNat) x := by unfold hasIn; rw [List.filter_append]
    rw [this, hasIn_snoc h0 h1, if_pos hx]
    simp
  rw [e]
  refine ⟨by simp, ?_⟩
  rw [List.getD_eq_getElem?_getD, List.getElem?_append_right (Nat.le_refl _)]
  simp
end
theorem plays_no {n : Int} {E : List (Int × Int)} {V L : List Int} {x : Int} (h : ¬ partE n E V L = 0) :
    (((decide (partE n E V L = partE n E V L) && decide (partE n E V L = partE n E V L)) && decide (((aroundE n E V L x).length : Int) = 0)) && !solidB n E V L) = true := by
  have e : aroundE n E V L x = [] := by unfold aroundE; rw [if_pos h]
  rw [e]
  simp [solidB, h]
theorem plays_end {n : Int} {E : List (Int × Int)} {V L : List Int} {x : Int} (hp : partE n E V L = 0) :
    (decide (cntI (blocksL n E V L) x = ((hasIn (blocksL n E V L) x).length : Int)) && (solidB n E V L == (decide (((blocksL n E V L).length : Int) = 1) && (decide (((blocksL n E V L).getD (0 : Int).toNat ([], [])).1 = V) && decide (((blocksL n E V L).getD (0 : Int).toNat ([], [])).2 = L))))) = true := by
  have e : blocksE n E V L = blocksL n E V L := by unfold blocksE; rw [if_neg (by omega)]
  unfold solidB cntI
  rw [e, decide_eq_true hp, decide_eq_true rfl]
  simp
theorem plays_at {bs : List (List Int × List Int)} {i x : Int} (h0 : 0 ≤ i) (h1 : i < (bs.length : Int)) (hx : x ∈ (bs.getD i.toNat ([], [])).1) :
    ¬ (((hasIn bs x).length : Int) ≤ cntI (bs.take i.toNat) x ∨ (decide (((hasIn bs x).getD (cntI (bs.take i.toNat) x).toNat ([], [])).1 = (bs.getD i.toNat ([], [])).1) && decide (((hasIn bs x).getD (cntI (bs.take i.toNat) x).toNat ([], [])).2 = (bs.getD i.toNat ([], [])).2)) = false) := by
  obtain ⟨z1, z2⟩ := hasIn_at h0 h1 hx
  have z3 : (cntI (bs.take i.toNat) x).toNat = (hasIn (bs.take i.toNat) x).length := by unfold cntI; omega
  rw [z3, z2]
  unfold cntI
  simp
  omega
end Go.Proofs.Ytahonnlgkmimlaa

set_option linter.unusedSimpArgs false
set_option linter.unusedVariables false
namespace Go.Proofs.Ytahonnlgkmimlaa
open Go.RowKit

set_option maxRecDepth 100000 in
set_option maxHeartbeats 1000000 in
theorem awakeB_any  (w : World) :
  Calls Try.prog 45 [].toArray w (Ans (.bool true) w) := by
  refine enter Try.f45 53 Try.func45 fun a hA => ?_
  replace hA := env_sub [] hA
  have H := Fr.start (org w)
  refine go_seq fun K1 hK1 => ?_
  refine q_reg [] [] ((True) ∧ True) hA H ⟨trivial, trivial⟩ fun a w2 hA H hG => ?_
  refine hK1 _ _ ?_
  refine go_seq fun K3 hK3 => ?_
  refine region_list ?_
  refine q_list 0 7 [(6, .agg #[.int .i64 0, .int .i64 1]), (7, .agg #[.int .i64 1, .int .i64 2]), (8, .agg #[.int .i64 2, .int .i64 0]), (9, .agg #[.int .i64 2, .int .i64 3]), (10, .agg #[.int .i64 3, .int .i64 4]), (11, .agg #[.int .i64 4, .int .i64 2]), (12, .agg #[.int .i64 0, .int .i64 0])] [(6, .agg #[.int .i64 0, .int .i64 1]), (7, .agg #[.int .i64 1, .int .i64 2]), (8, .agg #[.int .i64 2, .int .i64 0]), (9, .agg #[.int .i64 2, .int .i64 3]), (10, .agg #[.int .i64 3, .int .i64 4]), (11, .agg #[.int .i64 4, .int .i64 2]), (12, .agg #[.int .i64 0, .int .i64 0])] ((∀ w, (Instr.build 99 #[(0, .int .i64 0), (1, .int .i64 1)]).run Try.prog w = .ok (.agg #[.int .i64 0, .int .i64 1]) w) ∧ (∀ w, (Instr.build 99 #[(0, .int .i64 1), (1, .int .i64 2)]).run Try.prog w = .ok (.agg #[.int .i64 1, .int .i64 2]) w) ∧ (∀ w, (Instr.build 99 #[(0, .int .i64 2), (1, .int .i64 0)]).run Try.prog w = .ok (.agg #[.int .i64 2, .int .i64 0]) w) ∧ (∀ w, (Instr.build 99 #[(0, .int .i64 2), (1, .int .i64 3)]).run Try.prog w = .ok (.agg #[.int .i64 2, .int .i64 3]) w) ∧ (∀ w, (Instr.build 99 #[(0, .int .i64 3), (1, .int .i64 4)]).run Try.prog w = .ok (.agg #[.int .i64 3, .int .i64 4]) w) ∧ (∀ w, (Instr.build 99 #[(0, .int .i64 4), (1, .int .i64 2)]).run Try.prog w = .ok (.agg #[.int .i64 4, .int .i64 2]) w) ∧ (∀ w, (Instr.build 99 #[]).run Try.prog w = .ok (.agg #[.int .i64 0, .int .i64 0]) w) ∧ True) hA H ⟨fun w => by kernel_rfl, fun w => by kernel_rfl, fun w => by kernel_rfl, fun w => by kernel_rfl, fun w => by kernel_rfl, fun w => by kernel_rfl, fun w => by kernel_rfl, trivial⟩ fun a w4 hA H hG => ?_
  refine list_at 7 ?_; refine q_lit 7 13 22 7 #[(0, .tmp 6), (1, .tmp 7), (2, .tmp 8), (3, .tmp 9), (4, .tmp 10), (5, .tmp 11), (6, .tmp 12)] 99 [(0, .agg #[.int .i64 0, .int .i64 1]), (1, .agg #[.int .i64 1, .int .i64 2]), (2, .agg #[.int .i64 2, .int .i64 0]), (3, .agg #[.int .i64 2, .int .i64 3]), (4, .agg #[.int .i64 3, .int .i64 4]), (5, .agg #[.int .i64 4, .int .i64 2]), (6, .agg #[.int .i64 0, .int .i64 0])] [.int .i64 0, .int .i64 1, .int .i64 1, .int .i64 2, .int .i64 2, .int .i64 0, .int .i64 2, .int .i64 3, .int .i64 3, .int .i64 4, .int .i64 4, .int .i64 2, .int .i64 0, .int .i64 0] [] hA H fun b5 a w6 H hA hG hge_b5 => ?_
  clear hge_b5
  refine q_list 8 1 [(14, .agg #[.int .i64 5, (.slice (some ⟨b5, 0, none⟩) 7 7)])] [(14, .agg #[.int .i64 5, (.slice (some ⟨b5, 0, none⟩) 7 7)])] ((∀ w, (Instr.build 24 #[(0, .int .i64 5), (1, (.slice (some ⟨b5, 0, none⟩) 7 7))]).run Try.prog w = .ok (.agg #[.int .i64 5, (.slice (some ⟨b5, 0, none⟩) 7 7)]) w) ∧ True) hA H ⟨fun w => by kernel_rfl, trivial⟩ fun a w7 hA H hG => ?_
  refine list_at 9 ?_; refine q_alloc 9 1 24 [.int .i64 0, (.slice none 0 0)] [(14, .agg #[.int .i64 5, (.slice (some ⟨b5, 0, none⟩) 7 7)])] hA H fun b8 a w9 H hA hG hge_b8 => ?_
  clear hge_b8
  refine list_at 10 ?_; refine q_store 10 24 (.tmp 1) (.tmp 14) 0 b8 (0) 24 [.int .i64 0, (.slice none 0 0)] [.int .i64 5, (.slice (some ⟨b5, 0, none⟩) 7 7)] [.int .i64 5, (.slice (some ⟨b5, 0, none⟩) 7 7)] (.agg #[.int .i64 5, (.slice (some ⟨b5, 0, none⟩) 7 7)]) [(1, .pointer (some ⟨b8, 0, none⟩))] hA H rfl rfl (Nat.le_of_ble_eq_true (by kernel_rfl)) rfl (fun v hv => by simp only [List.mem_cons, List.not_mem_nil, or_false] at hv; rcases hv with rfl | rfl; exact rfl; exact rfl) fun a w10 H hA hG => ?_
  replace H : Fr _ _ _ [.box b8 24 [.int .i64 5, (.slice (some ⟨b5, 0, none⟩) 7 7)], .box b5 99 [.int .i64 0, .int .i64 1, .int .i64 1, .int .i64 2, .int .i64 2, .int .i64 0, .int .i64 2, .int .i64 3, .int .i64 3, .int .i64 4, .int .i64 4, .int .i64 2, .int .i64 0, .int .i64 0]] := H
  refine list_end ?_
  refine hK3 _ _ ?_
  refine go_seq fun K11 hK11 => ?_
  have H0 := H
  have hM0 := H0.keeps none (.inl rfl)
  refine region_mix (But w10 none) [0, 1, 2, 3, 4, 5, 6, 7] 9 ?_
  replace H := H.drawn; have hD := But.drew w10 none
  generalize ({ w10 with drawn := w10.drawn + 1 } : World) = w12 at H hD ⊢
  refine m_take (n := 7) [0, 1] #[true, true, false, false, false, false, false, false, false] [(16, .agg #[.int .i64 5, (.slice (some ⟨b5, 0, none⟩) 7 7)]), (17, .agg #[.int .i64 5, (.slice (some ⟨b5, 0, none⟩) 7 7)])] [(1, .pointer (some ⟨b8, 0, none⟩)), (16, .agg #[.int .i64 5, (.slice (some ⟨b5, 0, none⟩) 7 7)]), (17, .agg #[.int .i64 5, (.slice (some ⟨b5, 0, none⟩) 7 7)])] (((Try.prog.info? 24).isSome = true ∧ RowOk (But w10 none) b8 (0) (Try.prog.cellsOf 24) #[.int .i64 5, (.slice (some ⟨b5, 0, none⟩) 7 7)]) ∧ ((Try.prog.info? 24).isSome = true ∧ RowOk (But w10 none) b8 (0) (Try.prog.cellsOf 24) #[.int .i64 5, (.slice (some ⟨b5, 0, none⟩) 7 7)]) ∧ True) hA hD ⟨⟨by kernel_rfl, by exact box_rowC (box_atC H0 none 0 rfl (fun e => by cases e)) 0 2⟩, ⟨by kernel_rfl, by exact box_rowC (box_atC H0 none 0 rfl (fun e => by cases e)) 0 2⟩, trivial⟩ fun a hA => ?_
  refine m_one 2 ?_; refine q_call 2 18 33 #[.tmp 17] #[24] [.agg #[.int .i64 5, (.slice (some ⟨b5, 0, none⟩) 7 7)]] (fun S v_ w' => Rd S w' v_ ((upto 5, upto (([(0, 1), (1, 2), (2, 0), (2, 3), (3, 4), (4, 2), (0, 0)] : List (Int × Int)).length : Int)))) [(1, .pointer (some ⟨b8, 0, none⟩)), (16, .agg #[.int .i64 5, (.slice (some ⟨b5, 0, none⟩) 7 7)])] hA H (by exact rwhole_any 5 (.slice (some ⟨b5, 0, none⟩) 7 7) ([(0, 1), (1, 2), (2, 0), (2, 3), (3, 4), (4, 2), (0, 0)] : List (Int × Int)) H.at (by omega) ((H.lit 1 rfl (by exact (((((((RowRd.single (α := Int × Int) (a := (0, 1)) (by exact ⟨[_], _, rfl, rfl, rfl⟩)).append (RowRd.single (α := Int × Int) (a := (1, 2)) (by exact ⟨[_], _, rfl, rfl, rfl⟩))).append (RowRd.single (α := Int × Int) (a := (2, 0)) (by exact ⟨[_], _, rfl, rfl, rfl⟩))).append (RowRd.single (α := Int × Int) (a := (2, 3)) (by exact ⟨[_], _, rfl, rfl, rfl⟩))).append (RowRd.single (α := Int × Int) (a := (3, 4)) (by exact ⟨[_], _, rfl, rfl, rfl⟩))).append (RowRd.single (α := Int × Int) (a := (4, 2)) (by exact ⟨[_], _, rfl, rfl, rfl⟩))).append (RowRd.single (α := Int × Int) (a := (0, 0)) (by exact ⟨[_], _, rfl, rfl, rfl⟩)))) rfl (by decide))) (by first | omega | decide) (by first | omega | decide)) fun v13 a w14 S hR15 H hA hG => ?_
  obtain ⟨v13a, v13b, rfl, hR15a, hR15b⟩ := two_rd hR15
  replace H := H.ro hR15a; replace H := H.ro hR15b
  replace H : Fr _ _ _ [.ro v13b (upto (([(0, 1), (1, 2), (2, 0), (2, 3), (3, 4), (4, 2), (0, 0)] : List (Int × Int)).length : Int)), .ro v13a (upto 5), .box b8 24 [.int .i64 5, (.slice (some ⟨b5, 0, none⟩) 7 7)], .box b5 99 [.int .i64 0, .int .i64 1, .int .i64 1, .int .i64 2, .int .i64 2, .int .i64 0, .int .i64 2, .int .i64 3, .int .i64 3, .int .i64 4, .int .i64 4, .int .i64 2, .int .i64 0, .int .i64 0]] := H
  replace hD := hD.below hG
  refine ⟨fun _ => hD, ?_⟩
  refine m_one 3 ?_; refine q_call 3 19 47 #[.tmp 16, .tmp 18] #[24, 29] [.agg #[.int .i64 5, (.slice (some ⟨b5, 0, none⟩) 7 7)], .agg #[v13a, v13b]] (fun S v_ w' => ∃ p_, v_ = .tuple #[p_, .int .i64 0] ∧ Rd S w' p_ (([([0, 1, 2], [0, 1, 2]), ([2, 3, 4], [3, 4, 5]), ([0], [6])] : List (List Int × List Int)))) [(1, .pointer (some ⟨b8, 0, none⟩))] hA H (by exact (by have h := blocks_any 5 (.slice (some ⟨b5, 0, none⟩) 7 7) ([(0, 1), (1, 2), (2, 0), (2, 3), (3, 4), (4, 2), (0, 0)] : List (Int × Int)) v13a v13b (upto 5) (upto (([(0, 1), (1, 2), (2, 0), (2, 3), (3, 4), (4, 2), (0, 0)] : List (Int × Int)).length : Int)) H.at (by omega) ((H.lit 3 rfl (by exact (((((((RowRd.single (α := Int × Int) (a := (0, 1)) (by exact ⟨[_], _, rfl, rfl, rfl⟩)).append (RowRd.single (α := Int × Int) (a := (1, 2)) (by exact ⟨[_], _, rfl, rfl, rfl⟩))).append (RowRd.single (α := Int × Int) (a := (2, 0)) (by exact ⟨[_], _, rfl, rfl, rfl⟩))).append (RowRd.single (α := Int × Int) (a := (2, 3)) (by exact ⟨[_], _, rfl, rfl, rfl⟩))).append (RowRd.single (α := Int × Int) (a := (3, 4)) (by exact ⟨[_], _, rfl, rfl, rfl⟩))).append (RowRd.single (α := Int × Int) (a := (4, 2)) (by exact ⟨[_], _, rfl, rfl, rfl⟩))).append (RowRd.single (α := Int × Int) (a := (0, 0)) (by exact ⟨[_], _, rfl, rfl, rfl⟩)))) rfl (by decide))) ((H.get 1 rfl)) ((H.get 0 rfl)); rw [awB_blocks, awB_part] at h; exact h)) fun v18 a w19 S hR20 H hA hG => ?_
  obtain ⟨v18p, rfl, hR20p⟩ := hR20
  replace H := H.ro hR20p
  replace H : Fr _ _ _ [.ro v18p ([([0, 1, 2], [0, 1, 2]), ([2, 3, 4], [3, 4, 5]), ([0], [6])] : List (List Int × List Int)), .ro v13b (upto (([(0, 1), (1, 2), (2, 0), (2, 3), (3, 4), (4, 2), (0, 0)] : List (Int × Int)).length : Int)), .ro v13a (upto 5), .box b8 24 [.int .i64 5, (.slice (some ⟨b5, 0, none⟩) 7 7)], .box b5 99 [.int .i64 0, .int .i64 1, .int .i64 1, .int .i64 2, .int .i64 2, .int .i64 0, .int .i64 2, .int .i64 3, .int .i64 3, .int .i64 4, .int .i64 4, .int .i64 2, .int .i64 0, .int .i64 0]] := H
  replace hD := hD.below hG
  refine ⟨fun _ => hD, ?_⟩
  refine m_take (n := 1) [4, 5, 6, 7] #[true, true, true, true, true, true, true, true, false] [] [(1, .pointer (some ⟨b8, 0, none⟩)), (2, v18p), (21, .int .i64 0)] ((True) ∧ (True) ∧ (True) ∧ (True) ∧ True) hA hD ⟨trivial, trivial, trivial, trivial, trivial⟩ fun a hA => ?_
  refine m_one 8 ?_; refine q_one 8 [] [(1, .pointer (some ⟨b8, 0, none⟩)), (2, v18p), (3, .int .i64 0)] ((True) ∧ True) hA H ⟨trivial, trivial⟩ fun a w22 H hA hG => ?_
  refine ⟨fun h => absurd h (by decide), ?_⟩
  refine m_end ?_
  refine hK11 _ _ ?_
  refine go_seq fun K23 hK23 => ?_
  have H0 := H
  have hM0 := H0.keeps none (.inl rfl)
  refine region_mix (But w22 none) [0, 1, 2, 3, 4, 5, 6, 7] 9 ?_
  replace H := H.drawn; have hD := But.drew w22 none
  generalize ({ w22 with drawn := w22.drawn + 1 } : World) = w24 at H hD ⊢
  refine m_take (n := 7) [0, 1] #[true, true, false, false, false, false, false, false, false] [(23, .agg #[.int .i64 5, (.slice (some ⟨b5, 0, none⟩) 7 7)]), (24, .agg #[.int .i64 5, (.slice (some ⟨b5, 0, none⟩) 7 7)])] [(2, v18p), (3, .int .i64 0), (23, .agg #[.int .i64 5, (.slice (some ⟨b5, 0, none⟩) 7 7)]), (24, .agg #[.int .i64 5, (.slice (some ⟨b5, 0, none⟩) 7 7)])] (((Try.prog.info? 24).isSome = true ∧ RowOk (But w22 none) b8 (0) (Try.prog.cellsOf 24) #[.int .i64 5, (.slice (some ⟨b5, 0, none⟩) 7 7)]) ∧ ((Try.prog.info? 24).isSome = true ∧ RowOk (But w22 none) b8 (0) (Try.prog.cellsOf 24) #[.int .i64 5, (.slice (some ⟨b5, 0, none⟩) 7 7)]) ∧ True) hA hD ⟨⟨by kernel_rfl, by exact box_rowC (box_atC H0 none 3 rfl (fun e => by cases e)) 0 2⟩, ⟨by kernel_rfl, by exact box_rowC (box_atC H0 none 3 rfl (fun e => by cases e)) 0 2⟩, trivial⟩ fun a hA => ?_
  refine m_one 2 ?_; refine q_call 2 25 33 #[.tmp 24] #[24] [.agg #[.int .i64 5, (.slice (some ⟨b5, 0, none⟩) 7 7)]] (fun S v_ w' => Rd S w' v_ ((upto 5, upto (([(0, 1), (1, 2), (2, 0), (2, 3), (3, 4), (4, 2), (0, 0)] : List (Int × Int)).length : Int)))) [(2, v18p), (3, .int .i64 0), (23, .agg #[.int .i64 5, (.slice (some ⟨b5, 0, none⟩) 7 7)])] hA H (by exact rwhole_any 5 (.slice (some ⟨b5, 0, none⟩) 7 7) ([(0, 1), (1, 2), (2, 0), (2, 3), (3, 4), (4, 2), (0, 0)] : List (Int × Int)) H.at (by omega) ((H.lit 4 rfl (by exact (((((((RowRd.single (α := Int × Int) (a := (0, 1)) (by exact ⟨[_], _, rfl, rfl, rfl⟩)).append (RowRd.single (α := Int × Int) (a := (1, 2)) (by exact ⟨[_], _, rfl, rfl, rfl⟩))).append (RowRd.single (α := Int × Int) (a := (2, 0)) (by exact ⟨[_], _, rfl, rfl, rfl⟩))).append (RowRd.single (α := Int × Int) (a := (2, 3)) (by exact ⟨[_], _, rfl, rfl, rfl⟩))).append (RowRd.single (α := Int × Int) (a := (3, 4)) (by exact ⟨[_], _, rfl, rfl, rfl⟩))).append (RowRd.single (α := Int × Int) (a := (4, 2)) (by exact ⟨[_], _, rfl, rfl, rfl⟩))).append (RowRd.single (α := Int × Int) (a := (0, 0)) (by exact ⟨[_], _, rfl, rfl, rfl⟩)))) rfl (by decide))) (by first | omega | decide) (by first | omega | decide)) fun v25 a w26 S hR27 H hA hG => ?_
  obtain ⟨v25a, v25b, rfl, hR27a, hR27b⟩ := two_rd hR27
  replace H := H.ro hR27a; replace H := H.ro hR27b
  replace H : Fr _ _ _ [.ro v25b (upto (([(0, 1), (1, 2), (2, 0), (2, 3), (3, 4), (4, 2), (0, 0)] : List (Int × Int)).length : Int)), .ro v25a (upto 5), .ro v18p ([([0, 1, 2], [0, 1, 2]), ([2, 3, 4], [3, 4, 5]), ([0], [6])] : List (List Int × List Int)), .ro v13b (upto (([(0, 1), (1, 2), (2, 0), (2, 3), (3, 4), (4, 2), (0, 0)] : List (Int × Int)).length : Int)), .ro v13a (upto 5), .box b8 24 [.int .i64 5, (.slice (some ⟨b5, 0, none⟩) 7 7)], .box b5 99 [.int .i64 0, .int .i64 1, .int .i64 1, .int .i64 2, .int .i64 2, .int .i64 0, .int .i64 2, .int .i64 3, .int .i64 3, .int .i64 4, .int .i64 4, .int .i64 2, .int .i64 0, .int .i64 0]] := H
  replace hD := hD.below hG
  refine ⟨fun _ => hD, ?_⟩
  refine m_one 3 ?_; refine q_call 3 26 48 #[.tmp 23, .tmp 25] #[24, 29] [.agg #[.int .i64 5, (.slice (some ⟨b5, 0, none⟩) 7 7)], .agg #[v25a, v25b]] (fun S v_ w' => ∃ p_, v_ = .tuple #[p_, .int .i64 0] ∧ Rd S w' p_ (([0, 2] : List Int))) [(2, v18p), (3, .int .i64 0)] hA H (by exact (by have h := cuts_any 5 (.slice (some ⟨b5, 0, none⟩) 7 7) ([(0, 1), (1, 2), (2, 0), (2, 3), (3, 4), (4, 2), (0, 0)] : List (Int × Int)) v25a v25b (upto 5) (upto (([(0, 1), (1, 2), (2, 0), (2, 3), (3, 4), (4, 2), (0, 0)] : List (Int × Int)).length : Int)) H.at (by omega) ((H.lit 6 rfl (by exact (((((((RowRd.single (α := Int × Int) (a := (0, 1)) (by exact ⟨[_], _, rfl, rfl, rfl⟩)).append (RowRd.single (α := Int × Int) (a := (1, 2)) (by exact ⟨[_], _, rfl, rfl, rfl⟩))).append (RowRd.single (α := Int × Int) (a := (2, 0)) (by exact ⟨[_], _, rfl, rfl, rfl⟩))).append (RowRd.single (α := Int × Int) (a := (2, 3)) (by exact ⟨[_], _, rfl, rfl, rfl⟩))).append (RowRd.single (α := Int × Int) (a := (3, 4)) (by exact ⟨[_], _, rfl, rfl, rfl⟩))).append (RowRd.single (α := Int × Int) (a := (4, 2)) (by exact ⟨[_], _, rfl, rfl, rfl⟩))).append (RowRd.single (α := Int × Int) (a := (0, 0)) (by exact ⟨[_], _, rfl, rfl, rfl⟩)))) rfl (by decide))) ((H.get 1 rfl)) ((H.get 0 rfl)); rw [awB_cuts, awB_part] at h; exact h)) fun v30 a w31 S hR32 H hA hG => ?_
  obtain ⟨v30p, rfl, hR32p⟩ := hR32
  replace H := H.ro hR32p
  replace H : Fr _ _ _ [.ro v30p ([0, 2] : List Int), .ro v25b (upto (([(0, 1), (1, 2), (2, 0), (2, 3), (3, 4), (4, 2), (0, 0)] : List (Int × Int)).length : Int)), .ro v25a (upto 5), .ro v18p ([([0, 1, 2], [0, 1, 2]), ([2, 3, 4], [3, 4, 5]), ([0], [6])] : List (List Int × List Int)), .ro v13b (upto (([(0, 1), (1, 2), (2, 0), (2, 3), (3, 4), (4, 2), (0, 0)] : List (Int × Int)).length : Int)), .ro v13a (upto 5), .box b8 24 [.int .i64 5, (.slice (some ⟨b5, 0, none⟩) 7 7)], .box b5 99 [.int .i64 0, .int .i64 1, .int .i64 1, .int .i64 2, .int .i64 2, .int .i64 0, .int .i64 2, .int .i64 3, .int .i64 3, .int .i64 4, .int .i64 4, .int .i64 2, .int .i64 0, .int .i64 0]] := H
  replace hD := hD.below hG
  refine ⟨fun _ => hD, ?_⟩
  refine m_take (n := 1) [4, 5, 6, 7] #[true, true, true, true, true, true, true, true, false] [] [(2, v18p), (3, .int .i64 0), (4, v30p), (28, .int .i64 0)] ((True) ∧ (True) ∧ (True) ∧ (True) ∧ True) hA hD ⟨trivial, trivial, trivial, trivial, trivial⟩ fun a hA => ?_
  refine m_one 8 ?_; refine q_one 8 [] [(2, v18p), (3, .int .i64 0), (4, v30p), (5, .int .i64 0)] ((True) ∧ True) hA H ⟨trivial, trivial⟩ fun a w34 H hA hG => ?_
  refine ⟨fun h => absurd h (by decide), ?_⟩
  refine m_end ?_
  refine hK23 _ _ ?_
  refine go_seq fun K35 hK35 => ?_
  refine region_list ?_
  refine q_list 0 12 [(37, .int .i64 (([([0, 1, 2], [0, 1, 2]), ([2, 3, 4], [3, 4, 5]), ([0], [6])] : List (List Int × List Int)).length : Int))] [(2, v18p), (4, v30p), (40, .bool (((decide ((0 : Int) = 0)) && (decide ((0 : Int) = 0))) && (decide ((([([0, 1, 2], [0, 1, 2]), ([2, 3, 4], [3, 4, 5]), ([0], [6])] : List (List Int × List Int)).length : Int) = 3))))] ((True) ∧ (True) ∧ (True) ∧ ((decide ((0 : Int) = 0)) = true → True) ∧ ((decide ((0 : Int) = 0)) = true → True) ∧ (True) ∧ (True) ∧ (((decide ((0 : Int) = 0)) && (decide ((0 : Int) = 0))) = true → True) ∧ (((decide ((0 : Int) = 0)) && (decide ((0 : Int) = 0))) = true → LenOk v18p (([([0, 1, 2], [0, 1, 2]), ([2, 3, 4], [3, 4, 5]), ([0], [6])] : List (List Int × List Int)).length : Int)) ∧ (((decide ((0 : Int) = 0)) && (decide ((0 : Int) = 0))) = true → True) ∧ (True) ∧ (True) ∧ True) hA H ⟨trivial, trivial, trivial, fun _ => trivial, fun _ => trivial, trivial, trivial, fun _ => trivial, fun _ => by exact len_ok (H.get 3 rfl), fun _ => trivial, trivial, trivial, trivial⟩ fun a w36 hA H hG => ?_
  have hb37 : (((decide ((0 : Int) = 0)) && (decide ((0 : Int) = 0))) && (decide ((([([0, 1, 2], [0, 1, 2]), ([2, 3, 4], [3, 4, 5]), ([0], [6])] : List (List Int × List Int)).length : Int) = 3))) = true := (by decide +kernel)
  have hhb37 := (⟨(⟨of_decide_eq_true ((aT ((aT hb37).1)).1), of_decide_eq_true ((aT ((aT hb37).1)).2)⟩ : _ ∧ _), of_decide_eq_true ((aT hb37).2)⟩ : _ ∧ _)
  obtain ⟨ea38, eb39, hea38c, hea38a, hea38b⟩ := cell_twoC (C := On w36) H.keepsS (H.getS 3 rfl) (1 : Int)
  replace H := (H.ro (hea38a (by first | omega | decide +kernel) (by first | omega | decide +kernel))).sink 1 8
  replace H := (H.ro (hea38b (by first | omega | decide +kernel) (by first | omega | decide +kernel))).sink 1 9
  replace H : Fr _ _ _ [.ro v30p ([0, 2] : List Int), .ro v25b (upto (([(0, 1), (1, 2), (2, 0), (2, 3), (3, 4), (4, 2), (0, 0)] : List (Int × Int)).length : Int)), .ro v25a (upto 5), .ro v18p ([([0, 1, 2], [0, 1, 2]), ([2, 3, 4], [3, 4, 5]), ([0], [6])] : List (List Int × List Int)), .ro v13b (upto (([(0, 1), (1, 2), (2, 0), (2, 3), (3, 4), (4, 2), (0, 0)] : List (Int × Int)).length : Int)), .ro v13a (upto 5), .box b8 24 [.int .i64 5, (.slice (some ⟨b5, 0, none⟩) 7 7)], .box b5 99 [.int .i64 0, .int .i64 1, .int .i64 1, .int .i64 2, .int .i64 2, .int .i64 0, .int .i64 2, .int .i64 3, .int .i64 3, .int .i64 4, .int .i64 4, .int .i64 2, .int .i64 0, .int .i64 0], .ro ea38 (([([0, 1, 2], [0, 1, 2]), ([2, 3, 4], [3, 4, 5]), ([0], [6])] : List (List Int × List Int)).getD (1 : Int).toNat ([], [])).1, .ro eb39 (([([0, 1, 2], [0, 1, 2]), ([2, 3, 4], [3, 4, 5]), ([0], [6])] : List (List Int × List Int)).getD (1 : Int).toNat ([], [])).2] := H
  refine q_listK [(40, true)] 12 4 [(44, eb39)] [(4, v30p), (40, .bool (((decide ((0 : Int) = 0)) && (decide ((0 : Int) = 0))) && (decide ((([([0, 1, 2], [0, 1, 2]), ([2, 3, 4], [3, 4, 5]), ([0], [6])] : List (List Int × List Int)).length : Int) = 3)))), (44, eb39)] (((((((decide ((0 : Int) = 0)) && (decide ((0 : Int) = 0))) && (decide ((([([0, 1, 2], [0, 1, 2]), ([2, 3, 4], [3, 4, 5]), ([0], [6])] : List (List Int × List Int)).length : Int) = 3))) = true) ∧ True) ∧ (True)) ∧ ((((((decide ((0 : Int) = 0)) && (decide ((0 : Int) = 0))) && (decide ((([([0, 1, 2], [0, 1, 2]), ([2, 3, 4], [3, 4, 5]), ([0], [6])] : List (List Int × List Int)).length : Int) = 3))) = true) ∧ True) ∧ ((Try.prog.info? 29).isSome = true ∧ IdxOk v18p 1)) ∧ ((((((decide ((0 : Int) = 0)) && (decide ((0 : Int) = 0))) && (decide ((([([0, 1, 2], [0, 1, 2]), ([2, 3, 4], [3, 4, 5]), ([0], [6])] : List (List Int × List Int)).length : Int) = 3))) = true) ∧ True) ∧ (0 < Try.prog.cellsOf 27)) ∧ ((((((decide ((0 : Int) = 0)) && (decide ((0 : Int) = 0))) && (decide ((([([0, 1, 2], [0, 1, 2]), ([2, 3, 4], [3, 4, 5]), ([0], [6])] : List (List Int × List Int)).length : Int) = 3))) = true) ∧ True) ∧ (CellOk (On w36) (hdB v18p) (hdO v18p + (1 : Int).toNat * 2 + 1) (eb39))) ∧ True) hA H ⟨⟨⟨hb37, trivial⟩, trivial⟩, ⟨⟨hb37, trivial⟩, ⟨by kernel_rfl, by exact idx_ok (H.get 3 rfl) (by first | omega | decide +kernel) (by first | omega | decide +kernel)⟩⟩, ⟨⟨hb37, trivial⟩, by decide +kernel⟩, ⟨⟨hb37, trivial⟩, by exact row_cellC (hea38c (by first | omega | decide +kernel) (by first | omega | decide +kernel)) 1⟩, trivial⟩ fun a w40 hA H hG => ?_
  refine list_at 16 ?_; refine op_on [(40, true)] (((((decide ((0 : Int) = 0)) && (decide ((0 : Int) = 0))) && (decide ((([([0, 1, 2], [0, 1, 2]), ([2, 3, 4], [3, 4, 5]), ([0], [6])] : List (List Int × List Int)).length : Int) = 3))) = true) ∧ True) hA ⟨hb37, trivial⟩ ?_; refine q_lit 16 45 27 3 #[(0, .const (.int .i64 3)), (1, .const (.int .i64 4)), (2, .const (.int .i64 5))] 3 [(0, .int .i64 3), (1, .int .i64 4), (2, .int .i64 5)] [.int .i64 3, .int .i64 4, .int .i64 5] [(4, v30p), (40, .bool (((decide ((0 : Int) = 0)) && (decide ((0 : Int) = 0))) && (decide ((([([0, 1, 2], [0, 1, 2]), ([2, 3, 4], [3, 4, 5]), ([0], [6])] : List (List Int × List Int)).length : Int) = 3)))), (44, eb39)] hA H fun b41 a w42 H hA hG hge_b41 => ?_
  clear hge_b41
  refine q_listK [(40, true)] 17 3 [(46, .bool (decide (((([([0, 1, 2], [0, 1, 2]), ([2, 3, 4], [3, 4, 5]), ([0], [6])] : List (List Int × List Int)).getD (1 : Int).toNat ([], [])).2) = ([3, 4, 5] : List Int))))] [(4, v30p), (48, .bool (decide (((([([0, 1, 2], [0, 1, 2]), ([2, 3, 4], [3, 4, 5]), ([0], [6])] : List (List Int × List Int)).getD (1 : Int).toNat ([], [])).2) = ([3, 4, 5] : List Int))))] (((((((decide ((0 : Int) = 0)) && (decide ((0 : Int) = 0))) && (decide ((([([0, 1, 2], [0, 1, 2]), ([2, 3, 4], [3, 4, 5]), ([0], [6])] : List (List Int × List Int)).length : Int) = 3))) = true) ∧ True) ∧ (Callable Try.prog 36 ∧ CallOk Try.prog (On w42) 36 [eb39, (.slice (some ⟨b41, 0, none⟩) 3 3)].toArray (.bool (decide (((([([0, 1, 2], [0, 1, 2]), ([2, 3, 4], [3, 4, 5]), ([0], [6])] : List (List Int × List Int)).getD (1 : Int).toNat ([], [])).2) = ([3, 4, 5] : List Int)))))) ∧ ((True) ∧ ((((decide ((0 : Int) = 0)) && (decide ((0 : Int) = 0))) && (decide ((([([0, 1, 2], [0, 1, 2]), ([2, 3, 4], [3, 4, 5]), ([0], [6])] : List (List Int × List Int)).length : Int) = 3))) = true)) ∧ ((True) ∧ (True)) ∧ True) hA H ⟨⟨⟨hb37, trivial⟩, ⟨callable_of, callOk_of fun w hw => by exact requal_any eb39 (.slice (some ⟨b41, 0, none⟩) 3 3) ((([([0, 1, 2], [0, 1, 2]), ([2, 3, 4], [3, 4, 5]), ([0], [6])] : List (List Int × List Int)).getD (1 : Int).toNat ([], [])).2) ([3, 4, 5] : List Int) w (((H.on hw).get 10 rfl)) (((H.on hw).lit 0 rfl (by exact (((RowRd.single (α := Int) (a := 3) (by exact rfl)).append (RowRd.single (α := Int) (a := 4) (by exact rfl))).append (RowRd.single (α := Int) (a := 5) (by exact rfl)))) rfl (by decide)))⟩⟩, ⟨trivial, hb37⟩, ⟨trivial, trivial⟩, trivial⟩ fun a w43 hA H hG => ?_
  have hb44 : (decide (((([([0, 1, 2], [0, 1, 2]), ([2, 3, 4], [3, 4, 5]), ([0], [6])] : List (List Int × List Int)).getD (1 : Int).toNat ([], [])).2) = ([3, 4, 5] : List Int))) = true := (by decide +kernel)
  have hhb44 := of_decide_eq_true hb44
  refine q_listK [(40, true), (48, true)] 20 1 [] [(48, .bool (decide (((([([0, 1, 2], [0, 1, 2]), ([2, 3, 4], [3, 4, 5]), ([0], [6])] : List (List Int × List Int)).getD (1 : Int).toNat ([], [])).2) = ([3, 4, 5] : List Int)))), (49, v30p)] (((((decide (((([([0, 1, 2], [0, 1, 2]), ([2, 3, 4], [3, 4, 5]), ([0], [6])] : List (List Int × List Int)).getD (1 : Int).toNat ([], [])).2) = ([3, 4, 5] : List Int))) = true) ∧ True) ∧ (True)) ∧ True) hA H ⟨⟨⟨hb44, trivial⟩, trivial⟩, trivial⟩ fun a w45 hA H hG => ?_
  refine list_at 21 ?_; refine op_on [(40, true), (48, true)] (((decide (((([([0, 1, 2], [0, 1, 2]), ([2, 3, 4], [3, 4, 5]), ([0], [6])] : List (List Int × List Int)).getD (1 : Int).toNat ([], [])).2) = ([3, 4, 5] : List Int))) = true) ∧ True) hA ⟨hb44, trivial⟩ ?_; refine q_lit 21 50 27 2 #[(0, .const (.int .i64 0)), (1, .const (.int .i64 2))] 3 [(0, .int .i64 0), (1, .int .i64 2)] [.int .i64 0, .int .i64 2] [(48, .bool (decide (((([([0, 1, 2], [0, 1, 2]), ([2, 3, 4], [3, 4, 5]), ([0], [6])] : List (List Int × List Int)).getD (1 : Int).toNat ([], [])).2) = ([3, 4, 5] : List Int)))), (49, v30p)] hA H fun b46 a w47 H hA hG hge_b46 => ?_
  clear hge_b46
  refine q_listK [(40, true), (48, true)] 22 3 [(51, .bool (decide (([0, 2] : List Int) = ([0, 2] : List Int))))] [(0, .bool (decide (([0, 2] : List Int) = ([0, 2] : List Int))))] (((((decide (((([([0, 1, 2], [0, 1, 2]), ([2, 3, 4], [3, 4, 5]), ([0], [6])] : List (List Int × List Int)).getD (1 : Int).toNat ([], [])).2) = ([3, 4, 5] : List Int))) = true) ∧ True) ∧ (Callable Try.prog 36 ∧ CallOk Try.prog (On w47) 36 [v30p, (.slice (some ⟨b46, 0, none⟩) 2 2)].toArray (.bool (decide (([0, 2] : List Int) = ([0, 2] : List Int)))))) ∧ ((True) ∧ ((decide (((([([0, 1, 2], [0, 1, 2]), ([2, 3, 4], [3, 4, 5]), ([0], [6])] : List (List Int × List Int)).getD (1 : Int).toNat ([], [])).2) = ([3, 4, 5] : List Int))) = true)) ∧ ((True) ∧ (True)) ∧ True) hA H ⟨⟨⟨hb44, trivial⟩, ⟨callable_of, callOk_of fun w hw => by exact requal_any v30p (.slice (some ⟨b46, 0, none⟩) 2 2) ([0, 2] : List Int) ([0, 2] : List Int) w (((H.on hw).get 2 rfl)) (((H.on hw).lit 0 rfl (by exact ((RowRd.single (α := Int) (a := 0) (by exact rfl)).append (RowRd.single (α := Int) (a := 2) (by exact rfl)))) rfl (by decide)))⟩⟩, ⟨trivial, hb44⟩, ⟨trivial, trivial⟩, trivial⟩ fun a w48 hA H hG => ?_
  refine list_end ?_
  refine hK35 _ _ ?_
  refine go_ret_ ?_
  refine ret_one 0 (.bool (decide (([0, 2] : List Int) = ([0, 2] : List Int)))) hA ?_
  exact ans_b' (by decide +kernel) H.below

set_option maxRecDepth 100000 in
set_option maxHeartbeats 1000000 in
theorem smallB_any (n : Int) (ve : Value) (E : List (Int × Int)) (vv vl : Value) (V L : List Int) (w : World) (hn : -9223372036854775808 ≤ n ∧ n ≤ 9223372036854775807) (hE : Rd (· < w.heap.size) w ve E) (hV : Rd (· < w.heap.size) w vv V) (hL : Rd (· < w.heap.size) w vl L) :
  Calls Try.prog 46 [.agg #[.int .i64 n, ve], .agg #[vv, vl]].toArray w (Ans (.bool (((decide ((smallI n E V L) = 1)) && (decide ((L.length : Int) ≤ 20))) && (decide ((V.length : Int) ≤ 20)))) w) := by
  refine enter Try.f46 21 Try.func46 fun a hA => ?_
  replace hA := env_sub [(0, .agg #[.int .i64 n, ve]), (1, .agg #[vv, vl])] hA
  have H := Fr.start (org w)
  refine go_seq fun K1 hK1 => ?_
  refine region_list ?_
  refine list_at 0 ?_; refine q_box 0 2 24 (.tmp 0) (.agg #[.int .i64 n, ve]) [.int .i64 n, ve] [(1, .agg #[vv, vl])] hA H fun b2 a w3 H hA hG hge_b2 => ?_
  clear hge_b2
  refine list_at 1 ?_; refine q_box 1 3 29 (.tmp 1) (.agg #[vv, vl]) [vv, vl] [(2, .pointer (some ⟨b2, 0, none⟩))] hA H fun b4 a w5 H hA hG hge_b4 => ?_
  clear hge_b4
  refine q_list 2 1 [] [(2, .pointer (some ⟨b2, 0, none⟩)), (3, .pointer (some ⟨b4, 0, none⟩))] ((True) ∧ True) hA H ⟨trivial, trivial⟩ fun a w6 hA H hG => ?_
  refine list_end ?_
  refine hK1 _ _ ?_
  refine go_seq fun K7 hK7 => ?_
  refine q_reg [(5, .agg #[.int .i64 n, ve]), (6, .agg #[vv, vl]), (7, .int .i64 (smallI n E V L)), (11, vl), (12, .int .i64 (L.length : Int)), (17, vv), (18, .int .i64 (V.length : Int))] [(4, .bool (((decide (smallI n E V L = 1)) && (decide ((L.length : Int) ≤ 20))) && (decide ((V.length : Int) ≤ 20))))] (((Try.prog.info? 24).isSome = true ∧ RowOk (On w6) b2 (0) (Try.prog.cellsOf 24) #[.int .i64 n, ve]) ∧ ((Try.prog.info? 29).isSome = true ∧ RowOk (On w6) b4 (0) (Try.prog.cellsOf 29) #[vv, vl]) ∧ (Callable Try.prog 18 ∧ CallOk Try.prog (On w6) 18 [.agg #[.int .i64 n, ve], .agg #[vv, vl]].toArray (.int .i64 (smallI n E V L))) ∧ (True) ∧ (True) ∧ ((decide (smallI n E V L = 1)) = true → 0 < Try.prog.cellsOf 27) ∧ ((decide (smallI n E V L = 1)) = true → CellOk (On w6) b4 (0 + 1) (vl)) ∧ ((decide (smallI n E V L = 1)) = true → LenOk vl (L.length : Int)) ∧ ((decide (smallI n E V L = 1)) = true → True) ∧ (True) ∧ (True) ∧ (((decide (smallI n E V L = 1)) && (decide ((L.length : Int) ≤ 20))) = true → 0 < Try.prog.cellsOf 27) ∧ (((decide (smallI n E V L = 1)) && (decide ((L.length : Int) ≤ 20))) = true → CellOk (On w6) b4 (0 + 0) (vv)) ∧ (((decide (smallI n E V L = 1)) && (decide ((L.length : Int) ≤ 20))) = true → LenOk vv (V.length : Int)) ∧ (((decide (smallI n E V L = 1)) && (decide ((L.length : Int) ≤ 20))) = true → True) ∧ (True) ∧ (True) ∧ True) hA H ⟨⟨by kernel_rfl, by exact box_row H 1 rfl 0 2⟩, ⟨by kernel_rfl, by exact box_row H 0 rfl 0 2⟩, ⟨callable_of, callOk_of fun w hw => by exact small_any n ve E vv vl V L w (by omega) (((H.on hw).arg hE)) (((H.on hw).arg hV)) (((H.on hw).arg hL))⟩, trivial, trivial, fun _ => by decide +kernel, fun _ => by exact box_cell H 0 rfl 1, fun _ => by exact len_ok (H.arg hL), fun _ => trivial, trivial, trivial, fun _ => by decide +kernel, fun _ => by exact box_cell H 0 rfl 0, fun _ => by exact len_ok (H.arg hV), fun _ => trivial, trivial, trivial, trivial⟩ fun a w8 hA H hG => ?_
  refine hK7 _ _ ?_
  refine go_ret_ ?_
  refine ret_one 4 (.bool (((decide (smallI n E V L = 1)) && (decide ((L.length : Int) ≤ 20))) && (decide ((V.length : Int) ≤ 20)))) hA ?_
  exact ans_b' rfl H.below

end Go.Proofs.Ytahonnlgkmimlaa

set_option linter.unusedSimpArgs false
set_option linter.unusedVariables false
namespace Go.Proofs.Ytahonnlgkmimlaa
open Go.RowKit

set_option maxRecDepth 100000 in
set_option maxHeartbeats 8000000 in
theorem blockPlays_any (n : Int) (ve : Value) (E : List (Int × Int)) (vv vl : Value) (V L : List Int) (x : Int) (w : World) (hn : -9223372036854775808 ≤ n ∧ n ≤ 9223372036854775807) (hE : Rd (· < w.heap.size) w ve E) (hV : Rd (· < w.heap.size) w vv V) (hL : Rd (· < w.heap.size) w vl L) :
  Calls Try.prog 10 [.agg #[.int .i64 n, ve], .agg #[vv, vl], .int .i64 x].toArray w (Ans (.bool true) w) := by
  refine enter Try.f10 150 Try.func10 fun a hA => ?_
  replace hA := env_sub [(0, .agg #[.int .i64 n, ve]), (1, .agg #[vv, vl]), (2, .int .i64 x)] hA
  have H := Fr.start (org w)
  refine go_seq fun K1 hK1 => ?_
  refine region_list ?_
  refine list_at 0 ?_; refine q_box 0 3 24 (.tmp 0) (.agg #[.int .i64 n, ve]) [.int .i64 n, ve] [(1, .agg #[vv, vl]), (2, .int .i64 x)] hA H fun b2 a w3 H hA hG hge_b2 => ?_
  clear hge_b2
  refine list_at 1 ?_; refine q_box 1 4 29 (.tmp 1) (.agg #[vv, vl]) [vv, vl] [(2, .int .i64 x), (3, .pointer (some ⟨b2, 0, none⟩))] hA H fun b4 a w5 H hA hG hge_b4 => ?_
  clear hge_b4
  refine q_list 2 1 [] [(2, .int .i64 x), (3, .pointer (some ⟨b2, 0, none⟩)), (4, .pointer (some ⟨b4, 0, none⟩))] ((True) ∧ True) hA H ⟨trivial, trivial⟩ fun a w6 hA H hG => ?_
  refine list_end ?_
  refine hK1 _ _ ?_
  refine go_seq fun K7 hK7 => ?_
  refine go_seq fun K8 hK8 => ?_
  refine q_reg [(16, .bool true), (19, .agg #[.int .i64 n, ve]), (20, .agg #[vv, vl]), (21, .bool (((decide ((smallI n E V L) = 1)) && (decide ((L.length : Int) ≤ 20))) && (decide ((V.length : Int) ≤ 20))))] [(2, .int .i64 x), (3, .pointer (some ⟨b2, 0, none⟩)), (4, .pointer (some ⟨b4, 0, none⟩)), (23, .bool (!(((decide ((smallI n E V L) = 1)) && (decide ((L.length : Int) ≤ 20))) && (decide ((V.length : Int) ≤ 20)))))] ((Callable Try.prog 45 ∧ CallOk Try.prog (On w6) 45 [].toArray (.bool true)) ∧ (True) ∧ (True) ∧ ((false) = false → (Try.prog.info? 24).isSome = true ∧ RowOk (On w6) b2 (0) (Try.prog.cellsOf 24) #[.int .i64 n, ve]) ∧ ((false) = false → (Try.prog.info? 29).isSome = true ∧ RowOk (On w6) b4 (0) (Try.prog.cellsOf 29) #[vv, vl]) ∧ ((false) = false → Callable Try.prog 46 ∧ CallOk Try.prog (On w6) 46 [.agg #[.int .i64 n, ve], .agg #[vv, vl]].toArray (.bool (((decide ((smallI n E V L) = 1)) && (decide ((L.length : Int) ≤ 20))) && (decide ((V.length : Int) ≤ 20))))) ∧ ((false) = false → True) ∧ (True) ∧ True) hA H ⟨⟨callable_of, callOk_of fun w hw => by exact awakeB_any w⟩, trivial, trivial, fun _ => ⟨by kernel_rfl, by exact box_row H 1 rfl 0 2⟩, fun _ => ⟨by kernel_rfl, by exact box_row H 0 rfl 0 2⟩, fun hg0 => by replace hg0 := hg0; exact ⟨callable_of, callOk_of fun w hw => by exact smallB_any n ve E vv vl V L w (by omega) (((H.on hw).arg hE)) (((H.on hw).arg hV)) (((H.on hw).arg hL))⟩, fun _ => trivial, trivial, trivial⟩ fun a w9 hA H hG => ?_
  refine hK8 _ _ ?_
  refine go_cond hA (.tmp 23) (!(((decide ((smallI n E V L) = 1)) && (decide ((L.length : Int) ≤ 20))) && (decide ((V.length : Int) ≤ 20)))) (fun hb10 => ?_) (fun hb10 => ?_)
  · have hhb10 := (aF (nT hb10)).imp (fun h => (aF h).imp (fun h => of_decide_eq_false h) (fun h => of_decide_eq_false h)) (fun h => of_decide_eq_false h)
    refine go_seq fun K11 hK11 => ?_
    refine q_reg [(24, .bool true)] [(6, .bool true)] ((Callable Try.prog 45 ∧ CallOk Try.prog (On w9) 45 [].toArray (.bool true)) ∧ (True) ∧ True) hA H ⟨⟨callable_of, callOk_of fun w hw => by exact awakeB_any w⟩, trivial, trivial⟩ fun a w12 hA H hG => ?_
    refine hK11 _ _ ?_
    refine go_ret_ ?_
    refine ret_one 6 (.bool true) hA ?_
    exact ans_b' rfl H.below
  · have hhb10 := (⟨(⟨of_decide_eq_true ((aT ((aT (nF hb10)).1)).1), of_decide_eq_true ((aT ((aT (nF hb10)).1)).2)⟩ : _ ∧ _), of_decide_eq_true ((aT (nF hb10)).2)⟩ : _ ∧ _)
    refine go_skip ?_
    refine hK7 _ _ ?_
    refine go_seq fun K13 hK13 => ?_
    refine region_list ?_
    refine q_list 0 2 [(26, .agg #[.int .i64 n, ve]), (27, .agg #[vv, vl])] [(2, .int .i64 x), (3, .pointer (some ⟨b2, 0, none⟩)), (4, .pointer (some ⟨b4, 0, none⟩)), (26, .agg #[.int .i64 n, ve]), (27, .agg #[vv, vl])] (((Try.prog.info? 24).isSome = true ∧ RowOk (On w9) b2 (0) (Try.prog.cellsOf 24) #[.int .i64 n, ve]) ∧ ((Try.prog.info? 29).isSome = true ∧ RowOk (On w9) b4 (0) (Try.prog.cellsOf 29) #[vv, vl]) ∧ True) hA H ⟨⟨by kernel_rfl, by exact box_row H 1 rfl 0 2⟩, ⟨by kernel_rfl, by exact box_row H 0 rfl 0 2⟩, trivial⟩ fun a w14 hA H hG => ?_
    refine list_at 2 ?_; refine q_call 2 28 47 #[.tmp 26, .tmp 27] #[24, 29] [.agg #[.int .i64 n, ve], .agg #[vv, vl]] (fun S v_ w' => ∃ p_, v_ = .tuple #[p_, .int .i64 (partE n E V L)] ∧ Rd S w' p_ ((blocksE n E V L))) [(2, .int .i64 x), (3, .pointer (some ⟨b2, 0, none⟩)), (4, .pointer (some ⟨b4, 0, none⟩))] hA H (by exact blocks_any n ve E vv vl V L H.at (by omega) ((H.arg hE)) ((H.arg hV)) ((H.arg hL))) fun v15 a w16 S hR17 H hA hG => ?_
    obtain ⟨v15p, rfl, hR17p⟩ := hR17
    replace H := H.ro hR17p
    replace H : Fr _ _ _ [.ro v15p (blocksE n E V L), .box b4 29 [vv, vl], .box b2 24 [.int .i64 n, ve]] := H
    refine q_list 3 5 [] [(2, .int .i64 x), (3, .pointer (some ⟨b2, 0, none⟩)), (4, .pointer (some ⟨b4, 0, none⟩)), (7, v15p), (8, .int .i64 (partE n E V L))] ((True) ∧ (True) ∧ (True) ∧ (True) ∧ (True) ∧ True) hA H ⟨trivial, trivial, trivial, trivial, trivial, trivial⟩ fun a w19 hA H hG => ?_
    refine list_end ?_
    refine hK13 _ _ ?_
    refine go_seq fun K20 hK20 => ?_
    refine region_list ?_
    refine q_list 0 2 [(32, .agg #[.int .i64 n, ve]), (33, .agg #[vv, vl])] [(2, .int .i64 x), (3, .pointer (some ⟨b2, 0, none⟩)), (4, .pointer (some ⟨b4, 0, none⟩)), (7, v15p), (8, .int .i64 (partE n E V L)), (32, .agg #[.int .i64 n, ve]), (33, .agg #[vv, vl])] (((Try.prog.info? 24).isSome = true ∧ RowOk (On w19) b2 (0) (Try.prog.cellsOf 24) #[.int .i64 n, ve]) ∧ ((Try.prog.info? 29).isSome = true ∧ RowOk (On w19) b4 (0) (Try.prog.cellsOf 29) #[vv, vl]) ∧ True) hA H ⟨⟨by kernel_rfl, by exact box_row H 2 rfl 0 2⟩, ⟨by kernel_rfl, by exact box_row H 1 rfl 0 2⟩, trivial⟩ fun a w21 hA H hG => ?_
    refine list_at 2 ?_; refine q_call 2 34 48 #[.tmp 32, .tmp 33] #[24, 29] [.agg #[.int .i64 n, ve], .agg #[vv, vl]] (fun S v_ w' => ∃ p_, v_ = .tuple #[p_, .int .i64 (partE n E V L)] ∧ Rd S w' p_ ((cutsE n E V L))) [(2, .int .i64 x), (3, .pointer (some ⟨b2, 0, none⟩)), (4, .pointer (some ⟨b4, 0, none⟩)), (7, v15p), (8, .int .i64 (partE n E V L))] hA H (by exact cuts_any n ve E vv vl V L H.at (by omega) ((H.arg hE)) ((H.arg hV)) ((H.arg hL))) fun v22 a w23 S hR24 H hA hG => ?_
    obtain ⟨v22p, rfl, hR24p⟩ := hR24
    replace H := H.ro hR24p
    replace H : Fr _ _ _ [.ro v22p (cutsE n E V L), .ro v15p (blocksE n E V L), .box b4 29 [vv, vl], .box b2 24 [.int .i64 n, ve]] := H
    refine q_list 3 5 [] [(2, .int .i64 x), (3, .pointer (some ⟨b2, 0, none⟩)), (4, .pointer (some ⟨b4, 0, none⟩)), (7, v15p), (8, .int .i64 (partE n E V L)), (9, v22p), (10, .int .i64 (partE n E V L))] ((True) ∧ (True) ∧ (True) ∧ (True) ∧ (True) ∧ True) hA H ⟨trivial, trivial, trivial, trivial, trivial, trivial⟩ fun a w26 hA H hG => ?_
    refine list_end ?_
    refine hK20 _ _ ?_
    refine go_seq fun K27 hK27 => ?_
    refine region_list ?_
    refine q_list 0 3 [(37, .agg #[.int .i64 n, ve]), (38, .agg #[vv, vl])] [(2, .int .i64 x), (3, .pointer (some ⟨b2, 0, none⟩)), (4, .pointer (some ⟨b4, 0, none⟩)), (7, v15p), (8, .int .i64 (partE n E V L)), (9, v22p), (10, .int .i64 (partE n E V L)), (37, .agg #[.int .i64 n, ve]), (38, .agg #[vv, vl]), (39, .int .i64 x)] (((Try.prog.info? 24).isSome = true ∧ RowOk (On w26) b2 (0) (Try.prog.cellsOf 24) #[.int .i64 n, ve]) ∧ ((Try.prog.info? 29).isSome = true ∧ RowOk (On w26) b4 (0) (Try.prog.cellsOf 29) #[vv, vl]) ∧ (True) ∧ True) hA H ⟨⟨by kernel_rfl, by exact box_row H 3 rfl 0 2⟩, ⟨by kernel_rfl, by exact box_row H 2 rfl 0 2⟩, trivial, trivial⟩ fun a w28 hA H hG => ?_
    refine list_at 3 ?_; refine q_call 3 40 49 #[.tmp 37, .tmp 38, .tmp 39] #[24, 29, 3] [.agg #[.int .i64 n, ve], .agg #[vv, vl], .int .i64 x] (fun S v_ w' => Rd S w' v_ ((aroundE n E V L x))) [(2, .int .i64 x), (3, .pointer (some ⟨b2, 0, none⟩)), (4, .pointer (some ⟨b4, 0, none⟩)), (7, v15p), (8, .int .i64 (partE n E V L)), (9, v22p), (10, .int .i64 (partE n E V L))] hA H (by exact around_any n ve E vv vl V L x H.at (by omega) ((H.arg hE)) ((H.arg hV)) ((H.arg hL))) fun v29 a w30 S hR31 H hA hG => ?_
    replace H := H.ro hR31
    refine q_list 4 1 [] [(2, .int .i64 x), (3, .pointer (some ⟨b2, 0, none⟩)), (4, .pointer (some ⟨b4, 0, none⟩)), (7, v15p), (8, .int .i64 (partE n E V L)), (9, v22p), (10, .int .i64 (partE n E V L)), (11, v29)] ((True) ∧ True) hA H ⟨trivial, trivial⟩ fun a w33 hA H hG => ?_
    refine list_end ?_
    refine hK27 _ _ ?_
    refine go_seq fun K34 hK34 => ?_
    refine q_reg [(41, .agg #[.int .i64 n, ve]), (42, .agg #[vv, vl]), (43, .int .i64 (partE n E V L))] [(2, .int .i64 x), (3, .pointer (some ⟨b2, 0, none⟩)), (4, .pointer (some ⟨b4, 0, none⟩)), (7, v15p), (8, .int .i64 (partE n E V L)), (9, v22p), (10, .int .i64 (partE n E V L)), (11, v29), (12, .int .i64 (partE n E V L))] (((Try.prog.info? 24).isSome = true ∧ RowOk (On w33) b2 (0) (Try.prog.cellsOf 24) #[.int .i64 n, ve]) ∧ ((Try.prog.info? 29).isSome = true ∧ RowOk (On w33) b4 (0) (Try.prog.cellsOf 29) #[vv, vl]) ∧ (Callable Try.prog 32 ∧ CallOk Try.prog (On w33) 32 [.agg #[.int .i64 n, ve], .agg #[vv, vl]].toArray (.int .i64 (partE n E V L))) ∧ (True) ∧ True) hA H ⟨⟨by kernel_rfl, by exact box_row H 4 rfl 0 2⟩, ⟨by kernel_rfl, by exact box_row H 3 rfl 0 2⟩, ⟨callable_of, callOk_of fun w hw => by exact rrightPart_any n ve E vv vl V L w (by omega) (((H.on hw).arg hE)) (((H.on hw).arg hV)) (((H.on hw).arg hL))⟩, trivial, trivial⟩ fun a w35 hA H hG => ?_
    refine hK34 _ _ ?_
    refine go_seq fun K36 hK36 => ?_
    refine go_seq fun K37 hK37 => ?_
    refine q_reg [] [(2, .int .i64 x), (3, .pointer (some ⟨b2, 0, none⟩)), (4, .pointer (some ⟨b4, 0, none⟩)), (7, v15p), (8, .int .i64 (partE n E V L)), (9, v22p), (10, .int .i64 (partE n E V L)), (11, v29), (12, .int .i64 (partE n E V L)), (45, .bool (!decide (partE n E V L = 0)))] ((True) ∧ (True) ∧ True) hA H ⟨trivial, trivial, trivial⟩ fun a w38 hA H hG => ?_
    refine hK37 _ _ ?_
    refine go_cond hA (.tmp 45) (!decide (partE n E V L = 0)) (fun hb39 => ?_) (fun hb39 => ?_)
    · have hhb39 := of_decide_eq_false (nT hb39)
      refine go_seq fun K40 hK40 => ?_
      refine q_reg [(56, .int .i64 ((aroundE n E V L x).length : Int)), (60, .agg #[.int .i64 n, ve]), (61, .agg #[vv, vl]), (62, .bool (solidB n E V L))] [(6, .bool ((((decide (partE n E V L = partE n E V L)) && (decide (partE n E V L = partE n E V L))) && (decide (((aroundE n E V L x).length : Int) = 0))) && (!(solidB n E V L))))] ((True) ∧ (True) ∧ (True) ∧ (True) ∧ ((decide (partE n E V L = partE n E V L)) = true → True) ∧ ((decide (partE n E V L = partE n E V L)) = true → True) ∧ ((decide (partE n E V L = partE n E V L)) = true → True) ∧ (True) ∧ (True) ∧ (((decide (partE n E V L = partE n E V L)) && (decide (partE n E V L = partE n E V L))) = true → True) ∧ (((decide (partE n E V L = partE n E V L)) && (decide (partE n E V L = partE n E V L))) = true → LenOk v29 ((aroundE n E V L x).length : Int)) ∧ (((decide (partE n E V L = partE n E V L)) && (decide (partE n E V L = partE n E V L))) = true → True) ∧ (True) ∧ (True) ∧ ((((decide (partE n E V L = partE n E V L)) && (decide (partE n E V L = partE n E V L))) && (decide (((aroundE n E V L x).length : Int) = 0))) = true → (Try.prog.info? 24).isSome = true ∧ RowOk (On w38) b2 (0) (Try.prog.cellsOf 24) #[.int .i64 n, ve]) ∧ ((((decide (partE n E V L = partE n E V L)) && (decide (partE n E V L = partE n E V L))) && (decide (((aroundE n E V L x).length : Int) = 0))) = true → (Try.prog.info? 29).isSome = true ∧ RowOk (On w38) b4 (0) (Try.prog.cellsOf 29) #[vv, vl]) ∧ ((((decide (partE n E V L = partE n E V L)) && (decide (partE n E V L = partE n E V L))) && (decide (((aroundE n E V L x).length : Int) = 0))) = true → Callable Try.prog 50 ∧ CallOk Try.prog (On w38) 50 [.agg #[.int .i64 n, ve], .agg #[vv, vl]].toArray (.bool (solidB n E V L))) ∧ ((((decide (partE n E V L = partE n E V L)) && (decide (partE n E V L = partE n E V L))) && (decide (((aroundE n E V L x).length : Int) = 0))) = true → True) ∧ (True) ∧ (True) ∧ True) hA H ⟨trivial, trivial, trivial, trivial, fun _ => trivial, fun _ => trivial, fun _ => trivial, trivial, trivial, fun _ => trivial, fun _ => by exact len_ok (H.get 0 rfl), fun _ => trivial, trivial, trivial, fun _ => ⟨by kernel_rfl, by exact box_row H 4 rfl 0 2⟩, fun _ => ⟨by kernel_rfl, by exact box_row H 3 rfl 0 2⟩, fun hg0 => by replace hg0 := (⟨(⟨of_decide_eq_true ((aT ((aT hg0).1)).1), of_decide_eq_true ((aT ((aT hg0).1)).2)⟩ : _ ∧ _), of_decide_eq_true ((aT hg0).2)⟩ : _ ∧ _); exact ⟨callable_of, callOk_of fun w hw => by exact solid_any n ve E vv vl V L w (by omega) (((H.on hw).arg hE)) (((H.on hw).arg hV)) (((H.on hw).arg hL))⟩, fun _ => trivial, trivial, trivial, trivial⟩ fun a w41 hA H hG => ?_
      refine hK40 _ _ ?_
      refine go_ret_ ?_
      refine ret_one 6 (.bool ((((decide (partE n E V L = partE n E V L)) && (decide (partE n E V L = partE n E V L))) && (decide (((aroundE n E V L x).length : Int) = 0))) && (!(solidB n E V L)))) hA ?_
      exact ans_b' (plays_no hhb39) H.below
    · have hhb39 := of_decide_eq_true (nF hb39)
      refine go_skip ?_
      refine hK36 _ _ ?_
      refine go_seq fun K42 hK42 => ?_
      have hpt : partE n E V L = 0 := by omega
      have hbe : blocksE n E V L = blocksL n E V L := by unfold blocksE; rw [if_neg (by omega)]
      have hr9 := rightE_0 (part_iff.1 hpt).1
      have hbl9 := blocks_len n E V L
      have hl9 := rises_len (part_iff.1 hpt).2.2.1 (by omega)
      have hv9 := rises_len (part_iff.1 hpt).2.1 (by omega)
      simp only [hbe] at H
      have hce : cutsE n E V L = cutsL V (blocksL n E V L) := by unfold cutsE; rw [if_neg (by omega)]
      simp only [hce] at H
      have hae : aroundE n E V L x = hasIn (blocksL n E V L) x := by unfold aroundE; rw [if_neg (by omega)]
      simp only [hae] at H
      refine region_list ?_
      refine q_list 0 2 [(65, .agg #[.int .i64 n, ve]), (66, .agg #[vv, vl])] [(2, .int .i64 x), (3, .pointer (some ⟨b2, 0, none⟩)), (4, .pointer (some ⟨b4, 0, none⟩)), (7, v15p), (8, .int .i64 (partE n E V L)), (9, v22p), (10, .int .i64 (partE n E V L)), (11, v29), (65, .agg #[.int .i64 n, ve]), (66, .agg #[vv, vl])] (((Try.prog.info? 24).isSome = true ∧ RowOk (On w38) b2 (0) (Try.prog.cellsOf 24) #[.int .i64 n, ve]) ∧ ((Try.prog.info? 29).isSome = true ∧ RowOk (On w38) b4 (0) (Try.prog.cellsOf 29) #[vv, vl]) ∧ True) hA H ⟨⟨by kernel_rfl, by exact box_row H 4 rfl 0 2⟩, ⟨by kernel_rfl, by exact box_row H 3 rfl 0 2⟩, trivial⟩ fun a w43 hA H hG => ?_
      refine list_at 2 ?_; refine q_call 2 67 51 #[.tmp 65, .tmp 66] #[24, 29] [.agg #[.int .i64 n, ve], .agg #[vv, vl]] (fun S v_ w' => Rd S w' v_ ((blocksL n E V L))) [(2, .int .i64 x), (3, .pointer (some ⟨b2, 0, none⟩)), (4, .pointer (some ⟨b4, 0, none⟩)), (7, v15p), (8, .int .i64 (partE n E V L)), (9, v22p), (10, .int .i64 (partE n E V L)), (11, v29)] hA H (by exact rblocks_any n ve E vv vl V L H.at (by omega) ((H.arg hE)) ((H.arg hV)) ((H.arg hL)) hpt) fun v44 a w45 S hR46 H hA hG => ?_
      replace H := H.ro hR46
      refine q_list 3 1 [] [(2, .int .i64 x), (3, .pointer (some ⟨b2, 0, none⟩)), (4, .pointer (some ⟨b4, 0, none⟩)), (7, v15p), (8, .int .i64 (partE n E V L)), (9, v22p), (10, .int .i64 (partE n E V L)), (11, v29), (13, v44)] ((True) ∧ True) hA H ⟨trivial, trivial⟩ fun a w48 hA H hG => ?_
      refine list_end ?_
      refine hK42 _ _ ?_
      refine go_seq fun K49 hK49 => ?_
      refine go_seq fun K50 hK50 => ?_
      refine region_list ?_
      refine q_list 0 14 [(76, .int .i64 ((blocksL n E V L).length : Int)), (78, .int .i64 ((blocksL n E V L).length : Int))] [(2, .int .i64 x), (3, .pointer (some ⟨b2, 0, none⟩)), (4, .pointer (some ⟨b4, 0, none⟩)), (7, v15p), (9, v22p), (11, v29), (13, v44), (81, .bool (((!decide (partE n E V L = 0)) || (!decide (partE n E V L = 0))) || (!decide (((blocksL n E V L).length : Int) = ((blocksL n E V L).length : Int)))))] ((True) ∧ (True) ∧ (True) ∧ ((!decide (partE n E V L = 0)) = false → True) ∧ ((!decide (partE n E V L = 0)) = false → True) ∧ (True) ∧ (True) ∧ (((!decide (partE n E V L = 0)) || (!decide (partE n E V L = 0))) = false → True) ∧ (((!decide (partE n E V L = 0)) || (!decide (partE n E V L = 0))) = false → LenOk v15p ((blocksL n E V L).length : Int)) ∧ (((!decide (partE n E V L = 0)) || (!decide (partE n E V L = 0))) = false → True) ∧ (((!decide (partE n E V L = 0)) || (!decide (partE n E V L = 0))) = false → LenOk v44 ((blocksL n E V L).length : Int)) ∧ (((!decide (partE n E V L = 0)) || (!decide (partE n E V L = 0))) = false → True) ∧ (True) ∧ (True) ∧ True) hA H ⟨trivial, trivial, trivial, fun _ => trivial, fun _ => trivial, trivial, trivial, fun _ => trivial, fun _ => by exact len_ok (H.get 3 rfl), fun _ => trivial, fun _ => by exact len_ok (H.get 0 rfl), fun _ => trivial, trivial, trivial, trivial⟩ fun a w51 hA H hG => ?_
      refine q_listK [(81, false)] 14 3 [(83, .agg #[vv, vl])] [(2, .int .i64 x), (3, .pointer (some ⟨b2, 0, none⟩)), (4, .pointer (some ⟨b4, 0, none⟩)), (7, v15p), (11, v29), (13, v44), (81, .bool (((!decide (partE n E V L = 0)) || (!decide (partE n E V L = 0))) || (!decide (((blocksL n E V L).length : Int) = ((blocksL n E V L).length : Int))))), (82, v22p), (83, .agg #[vv, vl]), (84, v44)] (((((((!decide (partE n E V L = 0)) || (!decide (partE n E V L = 0))) || (!decide (((blocksL n E V L).length : Int) = ((blocksL n E V L).length : Int)))) = false) ∧ True) ∧ (True)) ∧ ((((((!decide (partE n E V L = 0)) || (!decide (partE n E V L = 0))) || (!decide (((blocksL n E V L).length : Int) = ((blocksL n E V L).length : Int)))) = false) ∧ True) ∧ ((Try.prog.info? 29).isSome = true ∧ RowOk (On w51) b4 (0) (Try.prog.cellsOf 29) #[vv, vl])) ∧ ((((((!decide (partE n E V L = 0)) || (!decide (partE n E V L = 0))) || (!decide (((blocksL n E V L).length : Int) = ((blocksL n E V L).length : Int)))) = false) ∧ True) ∧ (True)) ∧ True) hA H ⟨⟨⟨(by simp [hb39, hb39]), trivial⟩, trivial⟩, ⟨⟨(by simp [hb39, hb39]), trivial⟩, ⟨by kernel_rfl, by exact box_row H 4 rfl 0 2⟩⟩, ⟨⟨(by simp [hb39, hb39]), trivial⟩, trivial⟩, trivial⟩ fun a w52 hA H hG => ?_
      refine list_at 17 ?_; refine op_on [(81, false)] (((((!decide (partE n E V L = 0)) || (!decide (partE n E V L = 0))) || (!decide (((blocksL n E V L).length : Int) = ((blocksL n E V L).length : Int)))) = false) ∧ True) hA ⟨(by simp [hb39, hb39]), trivial⟩ ?_; refine q_call 17 85 52 #[.tmp 83, .tmp 84] #[29, 56] [.agg #[vv, vl], v44] (fun S v_ w' => Rd S w' v_ ((cutsL V (blocksL n E V L)))) [(2, .int .i64 x), (3, .pointer (some ⟨b2, 0, none⟩)), (4, .pointer (some ⟨b4, 0, none⟩)), (7, v15p), (11, v29), (13, v44), (81, .bool (((!decide (partE n E V L = 0)) || (!decide (partE n E V L = 0))) || (!decide (((blocksL n E V L).length : Int) = ((blocksL n E V L).length : Int))))), (82, v22p)] hA H (by exact rcuts_any vv vl v44 V L (blocksL n E V L) H.at ((H.arg hV)) ((H.arg hL)) ((H.get 0 rfl)) (by omega) (by omega)) fun v53 a w54 S hR55 H hA hG => ?_
      replace H := H.ro hR55
      refine q_listK [(81, false)] 18 3 [(86, .bool (decide ((cutsL V (blocksL n E V L)) = (cutsL V (blocksL n E V L)))))] [(2, .int .i64 x), (3, .pointer (some ⟨b2, 0, none⟩)), (4, .pointer (some ⟨b4, 0, none⟩)), (7, v15p), (11, v29), (13, v44), (88, .bool (!(decide ((cutsL V (blocksL n E V L)) = (cutsL V (blocksL n E V L))))))] (((((((!decide (partE n E V L = 0)) || (!decide (partE n E V L = 0))) || (!decide (((blocksL n E V L).length : Int) = ((blocksL n E V L).length : Int)))) = false) ∧ True) ∧ (Callable Try.prog 36 ∧ CallOk Try.prog (On w54) 36 [v22p, v53].toArray (.bool (decide ((cutsL V (blocksL n E V L)) = (cutsL V (blocksL n E V L))))))) ∧ ((((((!decide (partE n E V L = 0)) || (!decide (partE n E V L = 0))) || (!decide (((blocksL n E V L).length : Int) = ((blocksL n E V L).length : Int)))) = false) ∧ True) ∧ (True)) ∧ ((True) ∧ ((((!decide (partE n E V L = 0)) || (!decide (partE n E V L = 0))) || (!decide (((blocksL n E V L).length : Int) = ((blocksL n E V L).length : Int)))) = false)) ∧ True) hA H ⟨⟨⟨(by simp [hb39, hb39]), trivial⟩, ⟨callable_of, callOk_of fun w hw => by exact requal_any v22p v53 (cutsL V (blocksL n E V L)) (cutsL V (blocksL n E V L)) w (((H.on hw).get 3 rfl)) (((H.on hw).get 0 rfl))⟩⟩, ⟨⟨(by simp [hb39, hb39]), trivial⟩, trivial⟩, ⟨trivial, (by simp [hb39, hb39])⟩, trivial⟩ fun a w57 hA H hG => ?_
      refine list_end ?_
      refine hK50 _ _ ?_
      refine go_cond hA (.tmp 88) (!(decide ((cutsL V (blocksL n E V L)) = (cutsL V (blocksL n E V L))))) (fun hb58 => ?_) (fun hb58 => ?_)
      · have hhb58 := of_decide_eq_false (nT hb58)
        refine go_seq fun K59 hK59 => ?_
        refine q_reg [] [(6, .bool false)] ((True) ∧ True) hA H ⟨trivial, trivial⟩ fun a w60 hA H hG => ?_
        refine hK59 _ _ ?_
        refine go_ret_ ?_
        refine ret_one 6 (.bool false) hA ?_
        exact absurd hhb58 (by simp [hpt])
      · have hhb58 := of_decide_eq_true (nF hb58)
        refine go_skip ?_
        refine hK49 _ _ ?_
        refine go_seq fun K61 hK61 => ?_
        refine q_reg [] [(2, .int .i64 x), (3, .pointer (some ⟨b2, 0, none⟩)), (4, .pointer (some ⟨b4, 0, none⟩)), (7, v15p), (11, v29), (13, v44), (14, .int .i64 0)] ((True) ∧ True) hA H ⟨trivial, trivial⟩ fun a w62 hA H hG => ?_
        refine hK61 _ _ ?_
        refine go_seq fun K63 hK63 => ?_
        refine go_seq fun K64 hK64 => ?_
        refine q_reg [] [(2, .int .i64 x), (3, .pointer (some ⟨b2, 0, none⟩)), (4, .pointer (some ⟨b4, 0, none⟩)), (7, v15p), (11, v29), (13, v44), (14, .int .i64 0), (15, .int .i64 0)] ((True) ∧ True) hA H ⟨trivial, trivial⟩ fun a w65 hA H hG => ?_
        refine hK64 _ _ ?_
        refine go_block 0 ?_
        refine go_loop_ (Int × Int) (fun x_ a W => (fun (i : Int) (q : Int) => EnvOk 150 a (keepEnv [(2, .int .i64 x), (3, .pointer (some ⟨b2, 0, none⟩)), (4, .pointer (some ⟨b4, 0, none⟩)), (7, v15p), (11, v29), (13, v44), (14, .int .i64 q), (15, .int .i64 i)]) ∧ (∃ S, Fr (org w) W S [.ro v53 (cutsL V (blocksL n E V L)), .ro v44 (blocksL n E V L), .ro v29 (hasIn (blocksL n E V L) x), .ro v22p (cutsL V (blocksL n E V L)), .ro v15p (blocksL n E V L), .box b4 29 [vv, vl], .box b2 24 [.int .i64 n, ve]]) ∧ 0 ≤ i ∧ i ≤ ((blocksL n E V L).length : Int) ∧ q = cntI ((blocksL n E V L).take i.toNat) x) x_.1 x_.2) (fun x_ => (fun (i : Int) (q : Int) => (((blocksL n E V L).length : Int) - i).toNat) x_.1 x_.2) (0, 0) ?_ (fun x_ a w67 hI => ?_)
        · (try dsimp only); exact ⟨env_sub _ hA, ⟨_, H⟩, by omega, by omega, by simp [cntI, hasIn]⟩
        obtain ⟨i, q⟩ := x_
        obtain ⟨hA, ⟨S, H⟩, h0, h0b, hq⟩ := hI
        try dsimp only at h0 h0b hq
        replace H : Fr _ _ _ [.ro v53 (cutsL V (blocksL n E V L)), .ro v44 (blocksL n E V L), .ro v29 (hasIn (blocksL n E V L) x), .ro v22p (cutsL V (blocksL n E V L)), .ro v15p (blocksL n E V L), .box b4 29 [vv, vl], .box b2 24 [.int .i64 n, ve]] := H
        have hq9 := cntI_le ((blocksL n E V L).take i.toNat) x; rw [← hq, List.length_take] at hq9
        refine go_seq fun K68 hK68 => ?_
        refine go_seq fun K69 hK69 => ?_
        refine q_reg [(91, .int .i64 ((blocksL n E V L).length : Int))] [(2, .int .i64 x), (3, .pointer (some ⟨b2, 0, none⟩)), (4, .pointer (some ⟨b4, 0, none⟩)), (7, v15p), (11, v29), (13, v44), (14, .int .i64 q), (15, .int .i64 i), (92, .bool (decide (i < ((blocksL n E V L).length : Int))))] ((True) ∧ (True) ∧ (LenOk v15p ((blocksL n E V L).length : Int)) ∧ (True) ∧ True) hA H ⟨trivial, trivial, by exact len_ok (H.get 4 rfl), trivial, trivial⟩ fun a w70 hA H hG => ?_
        refine hK69 _ _ ?_
        refine go_cond hA (.tmp 92) (decide (i < ((blocksL n E V L).length : Int))) (fun hb71 => ?_) (fun hb71 => ?_)
        · have hhb71 := of_decide_eq_true hb71
          refine go_skip ?_
          refine hK68 _ _ ?_
          refine go_seq fun K72 hK72 => ?_
          refine go_block 1 ?_
          refine go_seq fun K73 hK73 => ?_
          refine go_seq fun K74 hK74 => ?_
          have hbm := getD_mem (l := blocksL n E V L) (i := i.toNat) (d := ([], [])) (by omega)
          obtain ⟨q1, q2, q3, q4⟩ := block_rises hpt hbm
          have q5 := rises_len q1 (by omega); have q6 := rises_len q2 (by omega)
          obtain ⟨ea75, eb76, hea75c, hea75a, hea75b⟩ := cell_twoC (C := On w70) H.keepsS (H.getS 4 rfl) i
          replace H := (H.ro (hea75a (by omega) (by omega))).sink 1 7
          replace H := (H.ro (hea75b (by omega) (by omega))).sink 1 8
          replace H : Fr _ _ _ [.ro v53 (cutsL V (blocksL n E V L)), .ro v44 (blocksL n E V L), .ro v29 (hasIn (blocksL n E V L) x), .ro v22p (cutsL V (blocksL n E V L)), .ro v15p (blocksL n E V L), .box b4 29 [vv, vl], .box b2 24 [.int .i64 n, ve], .ro ea75 ((blocksL n E V L).getD i.toNat ([], [])).1, .ro eb76 ((blocksL n E V L).getD i.toNat ([], [])).2] := H
          obtain ⟨ea77, eb78, hea77c, hea77a, hea77b⟩ := cell_twoC (C := On w70) H.keepsS (H.getS 1 rfl) i
          replace H := (H.ro (hea77a (by omega) (by omega))).sink 1 9
          replace H := (H.ro (hea77b (by omega) (by omega))).sink 1 10
          replace H : Fr _ _ _ [.ro v53 (cutsL V (blocksL n E V L)), .ro v44 (blocksL n E V L), .ro v29 (hasIn (blocksL n E V L) x), .ro v22p (cutsL V (blocksL n E V L)), .ro v15p (blocksL n E V L), .box b4 29 [vv, vl], .box b2 24 [.int .i64 n, ve], .ro ea75 ((blocksL n E V L).getD i.toNat ([], [])).1, .ro eb76 ((blocksL n E V L).getD i.toNat ([], [])).2, .ro ea77 ((blocksL n E V L).getD i.toNat ([], [])).1, .ro eb78 ((blocksL n E V L).getD i.toNat ([], [])).2] := H
          refine q_draw [(98, .agg #[ea75, eb76]), (102, .agg #[ea77, eb78]), (103, .bool (decide ((((blocksL n E V L).getD i.toNat ([], [])).1) = (((blocksL n E V L).getD i.toNat ([], [])).1)) && decide ((((blocksL n E V L).getD i.toNat ([], [])).2) = (((blocksL n E V L).getD i.toNat ([], [])).2))))] [(2, .int .i64 x), (3, .pointer (some ⟨b2, 0, none⟩)), (4, .pointer (some ⟨b4, 0, none⟩)), (7, v15p), (11, v29), (13, v44), (14, .int .i64 q), (15, .int .i64 i), (104, .bool (!(decide ((((blocksL n E V L).getD i.toNat ([], [])).1) = (((blocksL n E V L).getD i.toNat ([], [])).1)) && decide ((((blocksL n E V L).getD i.toNat ([], [])).2) = (((blocksL n E V L).getD i.toNat ([], [])).2)))))] ((True) ∧ (True) ∧ ((Try.prog.info? 29).isSome = true ∧ IdxOk v15p i) ∧ ((Try.prog.info? 29).isSome = true ∧ RowOk (On w70) (hdB v15p) (hdO v15p + i.toNat * 2) (Try.prog.cellsOf 29) #[ea75, eb76]) ∧ (True) ∧ (True) ∧ ((Try.prog.info? 29).isSome = true ∧ IdxOk v44 i) ∧ ((Try.prog.info? 29).isSome = true ∧ RowOk (On w70) (hdB v44) (hdO v44 + i.toNat * 2) (Try.prog.cellsOf 29) #[ea77, eb78]) ∧ (Callable Try.prog 29 ∧ CallOk Try.prog (On w70) 29 [.agg #[ea75, eb76], .agg #[ea77, eb78]].toArray (.bool (decide ((((blocksL n E V L).getD i.toNat ([], [])).1) = (((blocksL n E V L).getD i.toNat ([], [])).1)) && decide ((((blocksL n E V L).getD i.toNat ([], [])).2) = (((blocksL n E V L).getD i.toNat ([], [])).2))))) ∧ (True) ∧ True) hA H ⟨trivial, trivial, ⟨by kernel_rfl, by exact idx_ok (H.get 4 rfl) (by omega) (by omega)⟩, ⟨by kernel_rfl, by exact hea75c (by omega) (by omega)⟩, trivial, trivial, ⟨by kernel_rfl, by exact idx_ok (H.get 1 rfl) (by omega) (by omega)⟩, ⟨by kernel_rfl, by exact hea77c (by omega) (by omega)⟩, ⟨callable_of, callOk_of fun w hw => by exact rsame_any ea75 eb76 ea77 eb78 (((blocksL n E V L).getD i.toNat ([], [])).1) (((blocksL n E V L).getD i.toNat ([], [])).2) (((blocksL n E V L).getD i.toNat ([], [])).1) (((blocksL n E V L).getD i.toNat ([], [])).2) w (((H.on hw).get 7 rfl)) (((H.on hw).get 8 rfl)) (((H.on hw).get 9 rfl)) (((H.on hw).get 10 rfl))⟩, trivial, trivial⟩ fun a w79 hA H hG => ?_
          refine hK74 _ _ ?_
          refine go_cond hA (.tmp 104) (!(decide ((((blocksL n E V L).getD i.toNat ([], [])).1) = (((blocksL n E V L).getD i.toNat ([], [])).1)) && decide ((((blocksL n E V L).getD i.toNat ([], [])).2) = (((blocksL n E V L).getD i.toNat ([], [])).2)))) (fun hb80 => ?_) (fun hb80 => ?_)
          · have hhb80 := (nT hb80)
            refine go_seq fun K81 hK81 => ?_
            refine q_reg [] [(6, .bool false)] ((True) ∧ True) hA H ⟨trivial, trivial⟩ fun a w82 hA H hG => ?_
            refine hK81 _ _ ?_
            refine go_ret_ ?_
            refine ret_one 6 (.bool false) hA ?_
            exact absurd hhb80 (by simp [hpt])
          · have hhb80 := (nF hb80)
            refine go_skip ?_
            refine hK73 _ _ ?_
            refine go_seq fun K83 hK83 => ?_
            obtain ⟨ea84, eb85, hea84c, hea84a, hea84b⟩ := cell_twoC (C := On w79) H.keepsS (H.getS 1 rfl) i
            replace H := (H.ro (hea84a (by omega) (by omega))).sink 1 11
            replace H := (H.ro (hea84b (by omega) (by omega))).sink 1 12
            replace H : Fr _ _ _ [.ro v53 (cutsL V (blocksL n E V L)), .ro v44 (blocksL n E V L), .ro v29 (hasIn (blocksL n E V L) x), .ro v22p (cutsL V (blocksL n E V L)), .ro v15p (blocksL n E V L), .box b4 29 [vv, vl], .box b2 24 [.int .i64 n, ve], .ro ea75 ((blocksL n E V L).getD i.toNat ([], [])).1, .ro eb76 ((blocksL n E V L).getD i.toNat ([], [])).2, .ro ea77 ((blocksL n E V L).getD i.toNat ([], [])).1, .ro eb78 ((blocksL n E V L).getD i.toNat ([], [])).2, .ro ea84 ((blocksL n E V L).getD i.toNat ([], [])).1, .ro eb85 ((blocksL n E V L).getD i.toNat ([], [])).2] := H
            refine q_reg [(109, ea84), (111, .bool (decide (x ∈ (((blocksL n E V L).getD i.toNat ([], [])).1))))] [(2, .int .i64 x), (3, .pointer (some ⟨b2, 0, none⟩)), (4, .pointer (some ⟨b4, 0, none⟩)), (7, v15p), (11, v29), (13, v44), (14, .int .i64 q), (15, .int .i64 i), (111, .bool (decide (x ∈ (((blocksL n E V L).getD i.toNat ([], [])).1))))] ((True) ∧ (True) ∧ ((Try.prog.info? 29).isSome = true ∧ IdxOk v44 i) ∧ (0 < Try.prog.cellsOf 27) ∧ (CellOk (On w79) (hdB v44) (hdO v44 + i.toNat * 2 + 0) (ea84)) ∧ (True) ∧ (Callable Try.prog 24 ∧ CallOk Try.prog (On w79) 24 [ea84, .int .i64 x].toArray (.bool (decide (x ∈ (((blocksL n E V L).getD i.toNat ([], [])).1))))) ∧ True) hA H ⟨trivial, trivial, ⟨by kernel_rfl, by exact idx_ok (H.get 1 rfl) (by omega) (by omega)⟩, by decide +kernel, by exact row_cellC (hea84c (by omega) (by omega)) 0, trivial, ⟨callable_of, callOk_of fun w hw => by exact in_any ea84 (((blocksL n E V L).getD i.toNat ([], [])).1) x w (((H.on hw).get 11 rfl))⟩, trivial⟩ fun a w86 hA H hG => ?_
            refine hK83 _ _ ?_
            refine go_cond hA (.tmp 111) (decide (x ∈ (((blocksL n E V L).getD i.toNat ([], [])).1))) (fun hb87 => ?_) (fun hb87 => ?_)
            · have hhb87 := of_decide_eq_true hb87
              refine go_seq fun K88 hK88 => ?_
              refine go_seq fun K89 hK89 => ?_
              have hin : x ∈ ((blocksL n E V L).getD i.toNat ([], [])).1 := hhb87
              obtain ⟨ea90, eb91, hea90c, hea90a, hea90b⟩ := cell_twoC (C := On w86) H.keepsS (H.getS 2 rfl) q
              obtain ⟨ea92, eb93, hea92c, hea92a, hea92b⟩ := cell_twoC (C := On w86) H.keepsS (H.getS 1 rfl) i
              refine q_draw [(114, .int .i64 ((hasIn (blocksL n E V L) x).length : Int)), (120, .agg #[ea90, eb91]), (124, .agg #[ea92, eb93]), (125, .bool (decide ((((hasIn (blocksL n E V L) x).getD q.toNat ([], [])).1) = (((blocksL n E V L).getD i.toNat ([], [])).1)) && decide ((((hasIn (blocksL n E V L) x).getD q.toNat ([], [])).2) = (((blocksL n E V L).getD i.toNat ([], [])).2))))] [(2, .int .i64 x), (3, .pointer (some ⟨b2, 0, none⟩)), (4, .pointer (some ⟨b4, 0, none⟩)), (7, v15p), (11, v29), (13, v44), (14, .int .i64 q), (15, .int .i64 i), (127, .bool ((decide (((hasIn (blocksL n E V L) x).length : Int) ≤ q)) || (!(decide ((((hasIn (blocksL n E V L) x).getD q.toNat ([], [])).1) = (((blocksL n E V L).getD i.toNat ([], [])).1)) && decide ((((hasIn (blocksL n E V L) x).getD q.toNat ([], [])).2) = (((blocksL n E V L).getD i.toNat ([], [])).2))))))] ((True) ∧ (True) ∧ (LenOk v29 ((hasIn (blocksL n E V L) x).length : Int)) ∧ (True) ∧ (True) ∧ ((decide (((hasIn (blocksL n E V L) x).length : Int) ≤ q)) = false → True) ∧ ((decide (((hasIn (blocksL n E V L) x).length : Int) ≤ q)) = false → True) ∧ ((decide (((hasIn (blocksL n E V L) x).length : Int) ≤ q)) = false → (Try.prog.info? 29).isSome = true ∧ IdxOk v29 q) ∧ ((decide (((hasIn (blocksL n E V L) x).length : Int) ≤ q)) = false → (Try.prog.info? 29).isSome = true ∧ RowOk (On w86) (hdB v29) (hdO v29 + q.toNat * 2) (Try.prog.cellsOf 29) #[ea90, eb91]) ∧ ((decide (((hasIn (blocksL n E V L) x).length : Int) ≤ q)) = false → True) ∧ ((decide (((hasIn (blocksL n E V L) x).length : Int) ≤ q)) = false → True) ∧ ((decide (((hasIn (blocksL n E V L) x).length : Int) ≤ q)) = false → (Try.prog.info? 29).isSome = true ∧ IdxOk v44 i) ∧ ((decide (((hasIn (blocksL n E V L) x).length : Int) ≤ q)) = false → (Try.prog.info? 29).isSome = true ∧ RowOk (On w86) (hdB v44) (hdO v44 + i.toNat * 2) (Try.prog.cellsOf 29) #[ea92, eb93]) ∧ ((decide (((hasIn (blocksL n E V L) x).length : Int) ≤ q)) = false → Callable Try.prog 29 ∧ CallOk Try.prog (On w86) 29 [.agg #[ea90, eb91], .agg #[ea92, eb93]].toArray (.bool (decide ((((hasIn (blocksL n E V L) x).getD q.toNat ([], [])).1) = (((blocksL n E V L).getD i.toNat ([], [])).1)) && decide ((((hasIn (blocksL n E V L) x).getD q.toNat ([], [])).2) = (((blocksL n E V L).getD i.toNat ([], [])).2))))) ∧ ((decide (((hasIn (blocksL n E V L) x).length : Int) ≤ q)) = false → True) ∧ (True) ∧ True) hA H ⟨trivial, trivial, by exact len_ok (H.get 2 rfl), trivial, trivial, fun _ => trivial, fun _ => trivial, fun hg0 => by replace hg0 := of_decide_eq_false hg0; exact ⟨by kernel_rfl, by exact idx_ok (H.get 2 rfl) (by omega) (by omega)⟩, fun hg0 => by replace hg0 := of_decide_eq_false hg0; exact ⟨by kernel_rfl, by exact hea90c (by omega) (by omega)⟩, fun _ => trivial, fun _ => trivial, fun hg0 => by replace hg0 := of_decide_eq_false hg0; exact ⟨by kernel_rfl, by exact idx_ok (H.get 1 rfl) (by omega) (by omega)⟩, fun hg0 => by replace hg0 := of_decide_eq_false hg0; exact ⟨by kernel_rfl, by exact hea92c (by omega) (by omega)⟩, fun hg0 => by replace hg0 := of_decide_eq_false hg0; exact ⟨callable_of, callOk_of fun w hw => by exact rsame_any ea90 eb91 ea92 eb93 (((hasIn (blocksL n E V L) x).getD q.toNat ([], [])).1) (((hasIn (blocksL n E V L) x).getD q.toNat ([], [])).2) (((blocksL n E V L).getD i.toNat ([], [])).1) (((blocksL n E V L).getD i.toNat ([], [])).2) w ((rd_on (Rd.up H.inb (hea90a (by omega) (by omega))) hw)) ((rd_on (Rd.up H.inb (hea90b (by omega) (by omega))) hw)) ((rd_on (Rd.up H.inb (hea92a (by omega) (by omega))) hw)) ((rd_on (Rd.up H.inb (hea92b (by omega) (by omega))) hw))⟩, fun _ => trivial, trivial, trivial⟩ fun a w94 hA H hG => ?_
              refine hK89 _ _ ?_
              refine go_cond hA (.tmp 127) ((decide (((hasIn (blocksL n E V L) x).length : Int) ≤ q)) || (!(decide ((((hasIn (blocksL n E V L) x).getD q.toNat ([], [])).1) = (((blocksL n E V L).getD i.toNat ([], [])).1)) && decide ((((hasIn (blocksL n E V L) x).getD q.toNat ([], [])).2) = (((blocksL n E V L).getD i.toNat ([], [])).2))))) (fun hb95 => ?_) (fun hb95 => ?_)
              · have hhb95 := (oT hb95).imp (fun h => of_decide_eq_true h) (fun h => (nT h))
                refine go_seq fun K96 hK96 => ?_
                refine q_reg [] [(6, .bool false)] ((True) ∧ True) hA H ⟨trivial, trivial⟩ fun a w97 hA H hG => ?_
                refine hK96 _ _ ?_
                refine go_ret_ ?_
                refine ret_one 6 (.bool false) hA ?_
                exact absurd hhb95 (by rw [hq]; exact plays_at h0 (by omega) hin)
              · have hhb95 := (⟨of_decide_eq_false ((oF hb95).1), (nF ((oF hb95).2))⟩ : _ ∧ _)
                refine go_skip ?_
                refine hK88 _ _ ?_
                refine q_reg [] [(2, .int .i64 x), (3, .pointer (some ⟨b2, 0, none⟩)), (4, .pointer (some ⟨b4, 0, none⟩)), (7, v15p), (11, v29), (13, v44), (14, .int .i64 (q + 1)), (15, .int .i64 i)] ((True) ∧ (InR .i64 (q + 1)) ∧ (True) ∧ True) hA H ⟨trivial, ⟨by omega, by omega⟩, trivial, trivial⟩ fun a w98 hA H hG => ?_
                refine hK72 _ _ ?_
                refine q_reg [] [(2, .int .i64 x), (3, .pointer (some ⟨b2, 0, none⟩)), (4, .pointer (some ⟨b4, 0, none⟩)), (7, v15p), (11, v29), (13, v44), (14, .int .i64 (q + 1)), (15, .int .i64 (i + 1))] ((True) ∧ (InR .i64 (i + 1)) ∧ (True) ∧ True) hA H ⟨trivial, ⟨by omega, by omega⟩, trivial, trivial⟩ fun a w99 hA H hG => ?_
                replace H := H.drop 12
                replace H := H.drop 11
                replace H := H.drop 10
                replace H := H.drop 9
                replace H := H.drop 8
                replace H := H.drop 7
                refine ⟨(i + 1, q + 1), ⟨env_sub _ hA, ⟨_, H⟩, ?_⟩, ?_⟩
                · (try dsimp only); exact ⟨by omega, by omega, by rw [cntI_snoc h0 (by omega), ← hq]; first | rw [if_pos hin] | (rw [if_neg hin]; omega)⟩
                · (try dsimp only); omega
            · have hhb87 := of_decide_eq_false hb87
              refine go_skip ?_
              refine hK72 _ _ ?_
              have hin := hhb87
              refine q_reg [] [(2, .int .i64 x), (3, .pointer (some ⟨b2, 0, none⟩)), (4, .pointer (some ⟨b4, 0, none⟩)), (7, v15p), (11, v29), (13, v44), (14, .int .i64 q), (15, .int .i64 (i + 1))] ((True) ∧ (InR .i64 (i + 1)) ∧ (True) ∧ True) hA H ⟨trivial, ⟨by omega, by omega⟩, trivial, trivial⟩ fun a w100 hA H hG => ?_
              replace H := H.drop 12
              replace H := H.drop 11
              replace H := H.drop 10
              replace H := H.drop 9
              replace H := H.drop 8
              replace H := H.drop 7
              refine ⟨(i + 1, q), ⟨env_sub _ hA, ⟨_, H⟩, ?_⟩, ?_⟩
              · (try dsimp only); exact ⟨by omega, by omega, by rw [cntI_snoc h0 (by omega), ← hq]; first | rw [if_pos hin] | (rw [if_neg hin]; omega)⟩
              · (try dsimp only); omega
        · have hhb71 := of_decide_eq_false hb71
          refine go_exit 0 ?_
          refine hK63 _ _ ?_
          refine go_seq fun K101 hK101 => ?_
          obtain ⟨ea102, eb103, hea102c, hea102a, hea102b⟩ := cell_twoC (C := On w70) H.keepsS (H.getS 1 rfl) (0 : Int)
          refine q_draw [(132, .int .i64 ((hasIn (blocksL n E V L) x).length : Int)), (135, .agg #[.int .i64 n, ve]), (136, .agg #[vv, vl]), (137, .bool (solidB n E V L)), (139, .int .i64 ((blocksL n E V L).length : Int)), (144, .agg #[ea102, eb103]), (145, .agg #[vv, vl]), (146, .bool (decide ((((blocksL n E V L).getD (0 : Int).toNat ([], [])).1) = V) && decide ((((blocksL n E V L).getD (0 : Int).toNat ([], [])).2) = L)))] [(6, .bool ((decide (q = ((hasIn (blocksL n E V L) x).length : Int))) && ((solidB n E V L) == ((decide (((blocksL n E V L).length : Int) = 1)) && (decide ((((blocksL n E V L).getD (0 : Int).toNat ([], [])).1) = V) && decide ((((blocksL n E V L).getD (0 : Int).toNat ([], [])).2) = L))))))] ((True) ∧ (True) ∧ (LenOk v29 ((hasIn (blocksL n E V L) x).length : Int)) ∧ (True) ∧ (True) ∧ ((decide (q = ((hasIn (blocksL n E V L) x).length : Int))) = true → (Try.prog.info? 24).isSome = true ∧ RowOk (On w70) b2 (0) (Try.prog.cellsOf 24) #[.int .i64 n, ve]) ∧ ((decide (q = ((hasIn (blocksL n E V L) x).length : Int))) = true → (Try.prog.info? 29).isSome = true ∧ RowOk (On w70) b4 (0) (Try.prog.cellsOf 29) #[vv, vl]) ∧ ((decide (q = ((hasIn (blocksL n E V L) x).length : Int))) = true → Callable Try.prog 50 ∧ CallOk Try.prog (On w70) 50 [.agg #[.int .i64 n, ve], .agg #[vv, vl]].toArray (.bool (solidB n E V L))) ∧ ((decide (q = ((hasIn (blocksL n E V L) x).length : Int))) = true → True) ∧ ((decide (q = ((hasIn (blocksL n E V L) x).length : Int))) = true → LenOk v44 ((blocksL n E V L).length : Int)) ∧ ((decide (q = ((hasIn (blocksL n E V L) x).length : Int))) = true → True) ∧ ((decide (q = ((hasIn (blocksL n E V L) x).length : Int))) = true → True) ∧ ((decide (q = ((hasIn (blocksL n E V L) x).length : Int))) = true → (decide (((blocksL n E V L).length : Int) = 1)) = true → True) ∧ ((decide (q = ((hasIn (blocksL n E V L) x).length : Int))) = true → (decide (((blocksL n E V L).length : Int) = 1)) = true → (Try.prog.info? 29).isSome = true ∧ IdxOk v44 0) ∧ ((decide (q = ((hasIn (blocksL n E V L) x).length : Int))) = true → (decide (((blocksL n E V L).length : Int) = 1)) = true → (Try.prog.info? 29).isSome = true ∧ RowOk (On w70) (hdB v44) (hdO v44 + (0 : Int).toNat * 2) (Try.prog.cellsOf 29) #[ea102, eb103]) ∧ ((decide (q = ((hasIn (blocksL n E V L) x).length : Int))) = true → (decide (((blocksL n E V L).length : Int) = 1)) = true → (Try.prog.info? 29).isSome = true ∧ RowOk (On w70) b4 (0) (Try.prog.cellsOf 29) #[vv, vl]) ∧ ((decide (q = ((hasIn (blocksL n E V L) x).length : Int))) = true → (decide (((blocksL n E V L).length : Int) = 1)) = true → Callable Try.prog 29 ∧ CallOk Try.prog (On w70) 29 [.agg #[ea102, eb103], .agg #[vv, vl]].toArray (.bool (decide ((((blocksL n E V L).getD (0 : Int).toNat ([], [])).1) = V) && decide ((((blocksL n E V L).getD (0 : Int).toNat ([], [])).2) = L)))) ∧ ((decide (q = ((hasIn (blocksL n E V L) x).length : Int))) = true → True) ∧ ((decide (q = ((hasIn (blocksL n E V L) x).length : Int))) = true → Try.prog.underlying 4 = some .bool) ∧ (True) ∧ (True) ∧ True) hA H ⟨trivial, trivial, by exact len_ok (H.get 2 rfl), trivial, trivial, fun _ => ⟨by kernel_rfl, by exact box_row H 6 rfl 0 2⟩, fun _ => ⟨by kernel_rfl, by exact box_row H 5 rfl 0 2⟩, fun hg0 => by replace hg0 := of_decide_eq_true hg0; exact ⟨callable_of, callOk_of fun w hw => by exact solid_any n ve E vv vl V L w (by omega) (((H.on hw).arg hE)) (((H.on hw).arg hV)) (((H.on hw).arg hL))⟩, fun _ => trivial, fun _ => by exact len_ok (H.get 1 rfl), fun _ => trivial, fun _ => trivial, fun _ _ => trivial, fun hg0 hg1 => by replace hg0 := of_decide_eq_true hg0; replace hg1 := of_decide_eq_true hg1; exact ⟨by kernel_rfl, by exact idx_ok (H.get 1 rfl) (by omega) (by omega)⟩, fun hg0 hg1 => by replace hg0 := of_decide_eq_true hg0; replace hg1 := of_decide_eq_true hg1; exact ⟨by kernel_rfl, by exact hea102c (by omega) (by omega)⟩, fun _ _ => ⟨by kernel_rfl, by exact box_row H 5 rfl 0 2⟩, fun hg0 hg1 => by replace hg0 := of_decide_eq_true hg0; replace hg1 := of_decide_eq_true hg1; exact ⟨callable_of, callOk_of fun w hw => by exact rsame_any ea102 eb103 vv vl (((blocksL n E V L).getD (0 : Int).toNat ([], [])).1) (((blocksL n E V L).getD (0 : Int).toNat ([], [])).2) V L w ((rd_on (Rd.up H.inb (hea102a (by omega) (by omega))) hw)) ((rd_on (Rd.up H.inb (hea102b (by omega) (by omega))) hw)) (((H.on hw).arg hV)) (((H.on hw).arg hL))⟩, fun _ => trivial, fun _ => Try.underlying4, trivial, trivial, trivial⟩ fun a w104 hA H hG => ?_
          refine hK101 _ _ ?_
          refine go_ret_ ?_
          refine ret_one 6 (.bool ((decide (q = ((hasIn (blocksL n E V L) x).length : Int))) && ((solidB n E V L) == ((decide (((blocksL n E V L).length : Int) = 1)) && (decide ((((blocksL n E V L).getD (0 : Int).toNat ([], [])).1) = V) && decide ((((blocksL n E V L).getD (0 : Int).toNat ([], [])).2) = L)))))) hA ?_
          exact ans_b' (by rw [hq, List.take_of_length_le (by omega)]; exact plays_end hpt) H.below

end Go.Proofs.Ytahonnlgkmimlaa
