/-
  Walks, written by program: awake.
-/
import Derived.Test.YtbdgelipabndaaaProg
import Derived.Test.YtbdgelipabndaaaWordD
set_option linter.unusedSimpArgs false
set_option linter.unusedVariables false
namespace Go.Proofs.Ytbdgelipabndaaa
open Go.RowKit

set_option maxRecDepth 100000 in
set_option maxHeartbeats 1000000 in
theorem awake_any  (w : World) :
  Calls Try.prog 9 [].toArray w (Ans (.bool true) w) := by
  have hl : ((awL.length : Nat) : Int) = 2 := rfl
  refine enter Try.f9 40 Try.func9 fun a hA => ?_
  replace hA := env_sub [] hA
  have H := Fr.start (org w)
  refine go_seq fun K1 hK1 => ?_
  refine q_reg [] [] ((True) ∧ True) hA H ⟨trivial, trivial⟩ fun a w2 hA H hG => ?_
  refine hK1 _ _ ?_
  refine go_seq fun K3 hK3 => ?_
  refine region_list ?_
  refine list_at 0 ?_; refine q_call 0 4 10 #[.const (.string (⟨#[32, 97, 98, 32, 32, 99]⟩))] #[9] [.string (⟨#[32, 97, 98, 32, 32, 99]⟩)] (fun S v w' => Rd S w' v (awL)) [] hA H (by exact aw_split H.at) fun v4 a w5 S hR6 H hA hG => ?_
  replace H := H.ro hR6
  refine q_list 1 1 [] [(1, v4)] ((True) ∧ True) hA H ⟨trivial, trivial⟩ fun a w8 hA H hG => ?_
  refine list_end ?_
  refine hK3 _ _ ?_
  refine go_seq fun K9 hK9 => ?_
  refine q_reg [(6, .tuple #[.int .i64 ((badB (⟨#[97, 33]⟩)).1), .bool ((badB (⟨#[97, 33]⟩)).2)])] [(1, v4), (2, .int .i64 ((badB (⟨#[97, 33]⟩)).1)), (3, .bool ((badB (⟨#[97, 33]⟩)).2))] ((Callable Try.prog 15 ∧ CallOk Try.prog (On w8) 15 [.string (⟨#[97, 33]⟩)].toArray (.tuple #[.int .i64 ((badB (⟨#[97, 33]⟩)).1), .bool ((badB (⟨#[97, 33]⟩)).2)])) ∧ (True) ∧ (True) ∧ (True) ∧ (True) ∧ (True) ∧ True) hA H ⟨⟨callable_of, callOk_of fun w hw => by exact bad_any (⟨#[97, 33]⟩) w⟩, trivial, trivial, trivial, trivial, trivial, trivial⟩ fun a w10 hA H hG => ?_
  refine hK9 _ _ ?_
  refine go_seq fun K11 hK11 => ?_
  refine q_reg [(10, .int .i64 (awL.length : Int)), (15, .agg #[.int .i64 ((awL.getD (0 : Int).toNat (0, ⟨#[]⟩)).1), .string ((awL.getD (0 : Int).toNat (0, ⟨#[]⟩)).2)]), (16, .agg #[.int .i64 1, .string (⟨#[97, 98]⟩)]), (17, .bool true), (23, .int .i64 ((awL.getD (1 : Int).toNat (0, ⟨#[]⟩)).1)), (27, .bool (nameB (⟨#[120, 49, 95]⟩))), (30, .bool (nameB (⟨#[49, 120]⟩)))] [(0, .bool (((((((decide ((awL.length : Int) = 2)) && true) && (decide ((awL.getD (1 : Int).toNat (0, ⟨#[]⟩)).1 = 5))) && (nameB (⟨#[120, 49, 95]⟩))) && (!(nameB (⟨#[49, 120]⟩)))) && (decide ((badB (⟨#[97, 33]⟩)).1 = 1))) && ((badB (⟨#[97, 33]⟩)).2)))] ((True) ∧ (LenOk v4 (awL.length : Int)) ∧ (True) ∧ (True) ∧ ((decide ((awL.length : Int) = 2)) = true → True) ∧ ((decide ((awL.length : Int) = 2)) = true → (Try.prog.info? 26).isSome = true ∧ IdxOk v4 0) ∧ ((decide ((awL.length : Int) = 2)) = true → (Try.prog.info? 26).isSome = true ∧ RowOk (On w10) (hdB v4) (hdO v4 + (0 : Int).toNat * 2) (Try.prog.cellsOf 26) #[.int .i64 ((awL.getD (0 : Int).toNat (0, ⟨#[]⟩)).1), .string ((awL.getD (0 : Int).toNat (0, ⟨#[]⟩)).2)]) ∧ ((decide ((awL.length : Int) = 2)) = true → ∀ w, (Instr.build 26 #[(0, .int .i64 1), (1, .string (⟨#[97, 98]⟩))]).run Try.prog w = .ok (.agg #[.int .i64 1, .string (⟨#[97, 98]⟩)]) w) ∧ ((decide ((awL.length : Int) = 2)) = true → EqOk Try.prog 26 (.agg #[.int .i64 ((awL.getD (0 : Int).toNat (0, ⟨#[]⟩)).1), .string ((awL.getD (0 : Int).toNat (0, ⟨#[]⟩)).2)]) (.agg #[.int .i64 1, .string (⟨#[97, 98]⟩)]) true ∧ Try.prog.eqGuardType Try.prog.depth 26 = false) ∧ (True) ∧ (True) ∧ (((decide ((awL.length : Int) = 2)) && true) = true → True) ∧ (((decide ((awL.length : Int) = 2)) && true) = true → (Try.prog.info? 26).isSome = true ∧ IdxOk v4 1) ∧ (((decide ((awL.length : Int) = 2)) && true) = true → 0 < Try.prog.cellsOf 3) ∧ (((decide ((awL.length : Int) = 2)) && true) = true → CellOk (On w10) (hdB v4) (hdO v4 + (1 : Int).toNat * 2 + 0) (.int .i64 ((awL.getD (1 : Int).toNat (0, ⟨#[]⟩)).1))) ∧ (((decide ((awL.length : Int) = 2)) && true) = true → True) ∧ (True) ∧ (True) ∧ ((((decide ((awL.length : Int) = 2)) && true) && (decide ((awL.getD (1 : Int).toNat (0, ⟨#[]⟩)).1 = 5))) = true → Callable Try.prog 11 ∧ CallOk Try.prog (On w10) 11 [.string (⟨#[120, 49, 95]⟩)].toArray (.bool (nameB (⟨#[120, 49, 95]⟩)))) ∧ (True) ∧ (True) ∧ (((((decide ((awL.length : Int) = 2)) && true) && (decide ((awL.getD (1 : Int).toNat (0, ⟨#[]⟩)).1 = 5))) && (nameB (⟨#[120, 49, 95]⟩))) = true → Callable Try.prog 11 ∧ CallOk Try.prog (On w10) 11 [.string (⟨#[49, 120]⟩)].toArray (.bool (nameB (⟨#[49, 120]⟩)))) ∧ (((((decide ((awL.length : Int) = 2)) && true) && (decide ((awL.getD (1 : Int).toNat (0, ⟨#[]⟩)).1 = 5))) && (nameB (⟨#[120, 49, 95]⟩))) = true → True) ∧ (True) ∧ (True) ∧ ((((((decide ((awL.length : Int) = 2)) && true) && (decide ((awL.getD (1 : Int).toNat (0, ⟨#[]⟩)).1 = 5))) && (nameB (⟨#[120, 49, 95]⟩))) && (!(nameB (⟨#[49, 120]⟩)))) = true → True) ∧ ((((((decide ((awL.length : Int) = 2)) && true) && (decide ((awL.getD (1 : Int).toNat (0, ⟨#[]⟩)).1 = 5))) && (nameB (⟨#[120, 49, 95]⟩))) && (!(nameB (⟨#[49, 120]⟩)))) = true → True) ∧ (True) ∧ (True) ∧ (((((((decide ((awL.length : Int) = 2)) && true) && (decide ((awL.getD (1 : Int).toNat (0, ⟨#[]⟩)).1 = 5))) && (nameB (⟨#[120, 49, 95]⟩))) && (!(nameB (⟨#[49, 120]⟩)))) && (decide ((badB (⟨#[97, 33]⟩)).1 = 1))) = true → True) ∧ (True) ∧ (True) ∧ True) hA H ⟨trivial, by exact len_ok (H.get 0 rfl), trivial, trivial, fun _ => trivial, fun hg0 => by replace hg0 := of_decide_eq_true hg0; exact ⟨by kernel_rfl, by exact idx_ok (H.get 0 rfl) (by omega) (by omega)⟩, fun hg0 => by replace hg0 := of_decide_eq_true hg0; exact ⟨by kernel_rfl, by exact row_flat (i := (0 : Int)) (H.get 0 rfl) (by omega) (by omega) (0, ⟨#[]⟩)⟩, fun _ => fun w => by kernel_rfl, fun _ => ⟨fun w => by kernel_rfl, by kernel_rfl⟩, trivial, trivial, fun _ => trivial, fun hg0 => by replace hg0 := (⟨of_decide_eq_true ((aT hg0).1), (aT hg0).2⟩ : _ ∧ _); exact ⟨by kernel_rfl, by exact idx_ok (H.get 0 rfl) (by omega) (by omega)⟩, fun _ => by decide +kernel, fun hg0 => by replace hg0 := (⟨of_decide_eq_true ((aT hg0).1), (aT hg0).2⟩ : _ ∧ _); exact by exact cell_flat (i := (1 : Int)) (H.get 0 rfl) (by omega) (by omega) (0, ⟨#[]⟩) 0, fun _ => trivial, trivial, trivial, fun _ => ⟨callable_of, callOk_of fun w hw => by exact name_any (⟨#[120, 49, 95]⟩) w⟩, trivial, trivial, fun _ => ⟨callable_of, callOk_of fun w hw => by exact name_any (⟨#[49, 120]⟩) w⟩, fun _ => trivial, trivial, trivial, fun _ => trivial, fun _ => trivial, trivial, trivial, fun _ => trivial, trivial, trivial, trivial⟩ fun a w12 hA H hG => ?_
  refine hK11 _ _ ?_
  refine go_ret_ ?_
  refine ret_one 0 (.bool (((((((decide ((awL.length : Int) = 2)) && true) && (decide ((awL.getD (1 : Int).toNat (0, ⟨#[]⟩)).1 = 5))) && (nameB (⟨#[120, 49, 95]⟩))) && (!(nameB (⟨#[49, 120]⟩)))) && (decide ((badB (⟨#[97, 33]⟩)).1 = 1))) && ((badB (⟨#[97, 33]⟩)).2))) hA ?_
  exact ans_b (by kernel_rfl) H.below

end Go.Proofs.Ytbdgelipabndaaa
