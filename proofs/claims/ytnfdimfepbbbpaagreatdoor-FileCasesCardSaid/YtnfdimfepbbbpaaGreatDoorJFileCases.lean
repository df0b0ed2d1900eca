/-
  The statement FileCases, for every input: the law answers true and leaves its arguments as they were. No condition, but that the listed package variables start as the text lays them; the card that ties these to the text.
-/
import Derived.Test.YtnfdimfepbbbpaaGreatDoorJFileCases8
import Derived.Test.YtnfdimfepbbbpaaGreatDoorCards
import Derived.Test.YtnfdimfepbbbpaaGreatDoorTie
import Derived.OpenShut
import Derived.LaidMore
import Derived.Lay
import Derived.SevenTiedAt
import Derived.Stop.Joined
set_option linter.unusedSimpArgs false
set_option linter.unusedVariables false
namespace Go.Proofs.YtnfdimfepbbbpaaGreatDoor
open Go.ChangeShapes Go.WideShapes Go.ChangeAt Go.RowKit

set_option maxRecDepth 100000 in
theorem fileCases_lifted (os : Os) (started : os.Started) (H : Type) (enc : TypeId × Value → H) :
    ReturnsInHanded {} Tryz.checked os 6 .any (fun w args => (Rows.fileCasesSpec.pre enc Tryz.prog Tryz.f6 Rows.fileCasesRow.domain false w args ∧ laidMetH Tryz.prog Rows.fileCasesRow.laid w) ∧ sizedMet enc Tryz.prog Tryz.f6 (OpenSpec.ofChange Rows.fileCasesSpec) false w args)
      (Rows.fileCasesSpec.post enc Tryz.prog Tryz.f6 false true false false) := by
  refine returnsInHanded_of_change_and (C := Tryz.checked) (X := fun w _ => laidMetH Tryz.prog Rows.fileCasesRow.laid w) (fun _ _ _ hh h => h.of_heap hh) Tryz.own started (by kernel_rfl) Tryz.func6
    (ChangeSpec.witness_shaped (enc := enc) (C := Tryz.checked) (os := os) (X := fun w _ => laidMetH Tryz.prog Rows.fileCasesRow.laid w) false (World.laidAll Tryz.prog os Rows.fileCasesRow.laid) #[.agg #[.int .i64 0, .slice none 0 0, .slice none 0 0, .slice none 0 0, .slice none 0 0, .slice none 0 0, .slice none 0 0]] 8 (World.laidAll_os _ _ _)
      (World.shaped_of_ZipB (by kernel_rfl) (by kernel_rfl)) (by kernel_rfl) (by kernel_rfl) (by kernel_rfl)
      (by rw [MakeChecks.laidMetH_plain _ _ _ (by kernel_rfl)]; exact laidMet_laidAll _ (by kernel_rfl) (by kernel_rfl))) ?_
  intro W base args ds gs before hval0 hW hcnd _ hL _
  have hval : ∀ (j : Nat) t v, Tryz.f6.params[j]? = some t → args[j]? = some v → Value.okWide Tryz.prog W .any base t v := hval0
  have hW' := hW
  obtain ⟨p, q, hA0, hV, rfl, hfz, hnd⟩ := hW
  have hA : DataW.TrodAll enc Tryz.prog W 0 (fun _ => true) true Tryz.f6.params.toList args.toList ds p := hA0
  rw [Tryz.params6] at hA hval
  obtain ⟨v0, d0, rfl, rfl, h0⟩ := trodAll_one hA
  obtain ⟨rfl, rfl⟩ := trodVars_none hV
  have h0k := h0
  obtain ⟨⟨a0, b0, c0, ⟨d0, e0⟩, ⟨f0, i0⟩⟩, g0, k0⟩ := arg_agg (opens_five Tryz.underlying31 (opens_int Tryz.underlying3) (opens_slice Tryz.underlying22 (opens_str Tryz.underlying9) (by kernel_rfl) (by decide)) (opens_slice Tryz.underlying23 (opens_four Tryz.underlying75 (opens_str Tryz.underlying9) (opens_int Tryz.underlying3) (opens_int Tryz.underlying3) (opens_int Tryz.underlying3) rfl rfl rfl rfl (by kernel_rfl) (by kernel_rfl) (by kernel_rfl) (by kernel_rfl) (by kernel_rfl)) (by kernel_rfl) (by decide)) (opens_pair Tryz.underlying26 (opens_slice Tryz.underlying24 (opens_int Tryz.underlying3) (by kernel_rfl) (by decide)) (opens_slice Tryz.underlying24 (opens_int Tryz.underlying3) (by kernel_rfl) (by decide)) rfl rfl (by kernel_rfl) (by kernel_rfl) (by kernel_rfl)) (opens_pair Tryz.underlying29 (opens_slice Tryz.underlying27 (opens_slice Tryz.underlying24 (opens_int Tryz.underlying3) (by kernel_rfl) (by decide)) (by kernel_rfl) (by decide)) (opens_slice Tryz.underlying27 (opens_slice Tryz.underlying24 (opens_int Tryz.underlying3) (by kernel_rfl) (by decide)) (by kernel_rfl) (by decide)) rfl rfl (by kernel_rfl) (by kernel_rfl) (by kernel_rfl)) rfl rfl rfl rfl rfl (by kernel_rfl) (by kernel_rfl) (by kernel_rfl) (by kernel_rfl) (by kernel_rfl) (by kernel_rfl)) Tryz.underlying31 rfl (hval 0 31 v0 rfl rfl) h0
  clear hA0 hval0
  simp only [List.append_nil] at hW'
  refine Calls.mono (fileCases_any W a0 b0 c0 d0 e0 f0 i0 v0 g0) fun e W' ⟨he, hb⟩ => ?_
  subst he
  exact ⟨_, rfl, post_of_below (pv := []) hW' (fun _ _ _ => trodAll_mk1 (shut_bool Tryz.underlying4 _)) (trodAll_mk1 (Below.trod Tryz.laidOut (by kernel_rfl) (of_decide_eq_true (by kernel_rfl)) h0k hb (fun x hx => hW'.lt x (by simp [hx])))) rfl (by simp) hb⟩

theorem fileCases_holds : Rows.FileCasesSaid :=
  OpenClaim.holds_of_wide 6 Tryz.f6 rfl rfl rfl rfl rfl rfl rfl ⟨rfl, rfl, rfl, rfl, rfl⟩ rfl rfl rfl rfl rfl (by kernel_rfl) Tryz.func6 (by kernel_rfl)
    (of_decide_eq_true (by kernel_rfl)) (by unfold Func.isWrapper; first | (rw [if_pos (by decide +kernel)]; kernel_rfl) | (rw [if_neg (by decide +kernel)]; exact ⟨rfl, rfl⟩))
    (fun os started H enc _ => fileCases_lifted os started H enc)
theorem fileCases_card_holds : Rows.FileCasesCardSaid :=
  Claim7.holds_tied_plain_at .later [] [.data, .pinned] true (true, "b0c12dbdfb5377cc87e754d10e73bb53b77223e7fe1623db068c5b6716bf2ead") true fileCases_holds (fun _ h => by cases h) (by kernel_rfl) (fun _ h => by cases h) fileCases_row_tie rfl ⟨rfl, rfl⟩ (by kernel_rfl) rfl
    (fun f fn hf hfn => by
      obtain rfl : f = 6 := Option.some.inj ((show Tryz.prog.funcNamed "tracery/tracerylaw26.FileCases" = some 6 by kernel_rfl).symm.trans hf) |>.symm
      obtain rfl : fn = Tryz.f6 := (Option.some.inj (Tryz.func6.symm.trans hfn)).symm
      exact ⟨by kernel_rfl, fun j t ht => by
        rw [Tryz.params6] at ht
        have hm : t ∈ [31] := by simpa using Array.mem_of_getElem? ht
        have hall : ([31].all fun u => !Tryz.prog.wantsStandIn u) = true := by kernel_rfl
        exact (show Tryz.prog.wantsStandIn t = false by simpa using List.all_eq_true.1 hall t hm)⟩)
    (by kernel_rfl)

end Go.Proofs.YtnfdimfepbbbpaaGreatDoor
