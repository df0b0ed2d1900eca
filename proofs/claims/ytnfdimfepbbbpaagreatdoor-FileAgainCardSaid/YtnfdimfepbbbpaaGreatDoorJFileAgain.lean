/-
  The statement FileAgain, for every input: the law answers true and leaves its arguments as they were. No condition, but that the listed package variables start as the text lays them; the card that ties these to the text.
-/
import Derived.Test.YtnfdimfepbbbpaaGreatDoorJFileAgain6
import Derived.Test.YtnfdimfepbbbpaaGreatDoorCards
import Derived.Test.YtnfdimfepbbbpaaGreatDoorTie
import Derived.OpenShut
import Derived.LaidMore
import Derived.Lay
import Derived.SevenTiedAt
import Derived.Stop.Joined
set_option linter.unusedSimpArgs false
set_option linter.unusedVariables false
namespace Go.Proofs.YtnfdimfepbbbpaaGreatDoor
open Go.ChangeShapes Go.WideShapes Go.ChangeAt Go.RowKit

set_option maxRecDepth 100000 in
theorem fileAgain_lifted (os : Os) (started : os.Started) (H : Type) (enc : TypeId × Value → H) :
    ReturnsInHanded {} Tryz.checked os 4 .any (fun w args => (Rows.fileAgainSpec.pre enc Tryz.prog Tryz.f4 Rows.fileAgainRow.domain false w args ∧ laidMetH Tryz.prog Rows.fileAgainRow.laid w) ∧ sizedMet enc Tryz.prog Tryz.f4 (OpenSpec.ofChange Rows.fileAgainSpec) false w args)
      (Rows.fileAgainSpec.post enc Tryz.prog Tryz.f4 false true false false) := by
  refine returnsInHanded_of_change_and (C := Tryz.checked) (X := fun w _ => laidMetH Tryz.prog Rows.fileAgainRow.laid w) (fun _ _ _ hh h => h.of_heap hh) Tryz.own started (by kernel_rfl) Tryz.func4
    (ChangeSpec.witness_shaped (enc := enc) (C := Tryz.checked) (os := os) (X := fun w _ => laidMetH Tryz.prog Rows.fileAgainRow.laid w) false (World.laidAll Tryz.prog os Rows.fileAgainRow.laid) #[.string ⟨#[]⟩] 8 (World.laidAll_os _ _ _)
      (World.shaped_of_ZipB (by kernel_rfl) (by kernel_rfl)) (by kernel_rfl) (by kernel_rfl) (by kernel_rfl)
      (by rw [MakeChecks.laidMetH_plain _ _ _ (by kernel_rfl)]; exact laidMet_laidAll _ (by kernel_rfl) (by kernel_rfl))) ?_
  intro W base args ds gs before afT hW anu _ hL _
  have Hp : ∀ (j : Nat) t v, Tryz.f4.params[j]? = some t → args[j]? = some v → Value.okWide Tryz.prog W .any base t v := afT
  have hW' := hW
  obtain ⟨p, q, hA0, hV, rfl, hfz, hnd⟩ := hW
  have hA : DataW.TrodAll enc Tryz.prog W 0 (fun _ => true) true Tryz.f4.params.toList args.toList ds p := hA0
  rw [Tryz.params4] at hA Hp
  obtain ⟨v0, d0, rfl, rfl, h0⟩ := trodAll_one hA
  obtain ⟨rfl, rfl⟩ := trodVars_none hV
  have h0k := h0
  obtain ⟨a0, rfl⟩ := okWide_string Tryz.underlying9 (Hp 0 9 v0 rfl rfl)
  clear hA0 afT
  simp only [List.append_nil] at hW'
  refine Calls.mono (HP W a0 (.string a0) ⟨[.string a0], rfl, rfl⟩) fun e W' ⟨he, hb⟩ => ?_
  subst he
  exact ⟨_, rfl, Hf (pv := []) hW' (fun _ _ _ => trodAll_mk1 (shut_bool Tryz.underlying4 _)) (trodAll_mk1 (Below.trod Tryz.laidOut (by kernel_rfl) (of_decide_eq_true (by kernel_rfl)) h0k hb (fun x hx => hW'.lt x (by simp [hx])))) rfl (by simp) hb⟩

theorem fileAgain_holds : Rows.FileAgainSaid :=
  OpenClaim.holds_of_wide 4 Tryz.f4 rfl rfl rfl rfl rfl rfl rfl ⟨rfl, rfl, rfl, rfl, rfl⟩ rfl rfl rfl rfl rfl (by kernel_rfl) Tryz.func4 (by kernel_rfl)
    (of_decide_eq_true (by kernel_rfl)) (by unfold Func.isWrapper; first | (rw [if_pos (by decide +kernel)]; kernel_rfl) | (rw [if_neg (by decide +kernel)]; exact ⟨rfl, rfl⟩))
    (fun os started H enc _ => fileAgain_lifted os started H enc)
theorem fileAgain_card_holds : Rows.FileAgainCardSaid :=
  Claim7.holds_tied_plain_at .later [] [.data, .pinned] true (true, "b0c12dbdfb5377cc87e754d10e73bb53b77223e7fe1623db068c5b6716bf2ead") true fileAgain_holds (fun _ h => by cases h) (by kernel_rfl) (fun _ h => by cases h) fileAgain_row_tie rfl ⟨rfl, rfl⟩ (by kernel_rfl) rfl
    (fun f fn hf By => by
      obtain rfl : f = 4 := Option.some.inj ((show Tryz.prog.funcNamed "tracery/tracerylaw26.FileAgain" = some 4 by kernel_rfl).symm.trans hf) |>.symm
      obtain rfl : fn = Tryz.f4 := (Option.some.inj (Tryz.func4.symm.trans By)).symm
      exact ⟨by kernel_rfl, fun j t ht => by
        rw [Tryz.params4] at ht
        have hm : t ∈ [9] := by simpa using Array.mem_of_getElem? ht
        have nH : ([9].all fun u => !Tryz.prog.wantsStandIn u) = true := by kernel_rfl
        exact (show Tryz.prog.wantsStandIn t = false by simpa using List.all_eq_true.1 nH t hm)⟩)
    (by kernel_rfl)

end Go.Proofs.YtnfdimfepbbbpaaGreatDoor
