/-
  The statement FilePrints, for every input: the law answers true and leaves its arguments as they were. No condition, but that the listed package variables start as the text lays them; the card that ties these to the text.
-/
import Derived.Test.YtnfdimfepbbbpaaGreatDoorJFilePrints7
import Derived.Test.YtnfdimfepbbbpaaGreatDoorCards
import Derived.Test.YtnfdimfepbbbpaaGreatDoorTie
import Derived.OpenShut
import Derived.LaidMore
import Derived.Lay
import Derived.SevenTiedAt
import Derived.Stop.Joined
set_option linter.unusedSimpArgs false
set_option linter.unusedVariables false
namespace Go.Proofs.YtnfdimfepbbbpaaGreatDoor
open Go.ChangeShapes Go.WideShapes Go.ChangeAt Go.RowKit

set_option maxRecDepth 100000 in
theorem filePrints_lifted (os : Os) (started : os.Started) (H : Type) (enc : TypeId × Value → H) :
    ReturnsInHanded {} Tryz.checked os 5 .any (fun w args => (Rows.filePrintsSpec.pre enc Tryz.prog Tryz.f5 Rows.filePrintsRow.domain false w args ∧ laidMetH Tryz.prog Rows.filePrintsRow.laid w) ∧ sizedMet enc Tryz.prog Tryz.f5 (OpenSpec.ofChange Rows.filePrintsSpec) false w args)
      (Rows.filePrintsSpec.post enc Tryz.prog Tryz.f5 false true false false) := by
  refine returnsInHanded_of_change_and (C := Tryz.checked) (X := fun w _ => laidMetH Tryz.prog Rows.filePrintsRow.laid w) (fun _ _ _ hh h => h.of_heap hh) Tryz.own started (by kernel_rfl) Tryz.func5
    (ChangeSpec.witness_shaped (enc := enc) (C := Tryz.checked) (os := os) (X := fun w _ => laidMetH Tryz.prog Rows.filePrintsRow.laid w) false (World.laidAll Tryz.prog os Rows.filePrintsRow.laid) #[.agg #[.int .i64 0, .slice none 0 0, .slice none 0 0, .slice none 0 0, .slice none 0 0, .slice none 0 0, .slice none 0 0], .int .i64 0] 8 (World.laidAll_os _ _ _)
      (World.shaped_of_ZipB (by kernel_rfl) (by kernel_rfl)) (by kernel_rfl) (by kernel_rfl) (by kernel_rfl)
      (by rw [MakeChecks.laidMetH_plain _ _ _ (by kernel_rfl)]; exact laidMet_laidAll _ (by kernel_rfl) (by kernel_rfl))) ?_
  intro W base args ds gs before acU hW ajL _ hL _
  have yU : ∀ (j : Nat) t v, Tryz.f5.params[j]? = some t → args[j]? = some v → Value.okWide Tryz.prog W .any base t v := acU
  have hW' := hW
  obtain ⟨p, q, hA0, hV, rfl, hfz, PS⟩ := hW
  have hA : DataW.TrodAll enc Tryz.prog W 0 (fun _ => true) true Tryz.f5.params.toList args.toList ds p := hA0
  rw [Tryz.params5] at hA yU
  obtain ⟨v0, v1, d0, d1, p0, p1, rfl, rfl, rfl, h0, h1⟩ := trodAll_two hA
  obtain ⟨rfl, rfl⟩ := trodVars_none hV
  have h0k := h0
  obtain ⟨⟨a0, b0, c0, ⟨d0, e0⟩, ⟨f0, i0⟩⟩, g0, k0⟩ := Y7 (Nf Tryz.underlying31 (pV Tryz.underlying3) (nR Tryz.underlying22 (Gf Tryz.underlying9) (by kernel_rfl) (by decide)) (nR Tryz.underlying23 (Nd Tryz.underlying75 (Gf Tryz.underlying9) (pV Tryz.underlying3) (pV Tryz.underlying3) (pV Tryz.underlying3) rfl rfl rfl rfl (by kernel_rfl) (by kernel_rfl) (by kernel_rfl) (by kernel_rfl) (by kernel_rfl)) (by kernel_rfl) (by decide)) (Dv Tryz.underlying26 (nR Tryz.underlying24 (pV Tryz.underlying3) (by kernel_rfl) (by decide)) (nR Tryz.underlying24 (pV Tryz.underlying3) (by kernel_rfl) (by decide)) rfl rfl (by kernel_rfl) (by kernel_rfl) (by kernel_rfl)) (Dv Tryz.underlying29 (nR Tryz.underlying27 (nR Tryz.underlying24 (pV Tryz.underlying3) (by kernel_rfl) (by decide)) (by kernel_rfl) (by decide)) (nR Tryz.underlying27 (nR Tryz.underlying24 (pV Tryz.underlying3) (by kernel_rfl) (by decide)) (by kernel_rfl) (by decide)) rfl rfl (by kernel_rfl) (by kernel_rfl) (by kernel_rfl)) rfl rfl rfl rfl rfl (by kernel_rfl) (by kernel_rfl) (by kernel_rfl) (by kernel_rfl) (by kernel_rfl) (by kernel_rfl)) Tryz.underlying31 rfl (yU 0 31 v0 rfl rfl) h0
  have h1k := h1
  obtain ⟨a1, rfl, k1⟩ := Y6 Tryz.underlying3 (yU 1 3 v1 rfl rfl) h1
  clear hA0 acU
  simp only [List.append_nil] at hW'
  refine Calls.mono (Fo W a0 b0 c0 d0 e0 f0 i0 a1 v0 (.int .i64 a1) g0 ⟨[_], rfl, rfl⟩ k1 k0.2.2.2.2.1 k0.2.2.2.2.2) fun e W' ⟨he, hb⟩ => ?_
  subst he
  exact ⟨_, rfl, FD (pv := []) hW' (fun _ _ _ => trodAll_mk1 (shut_bool Tryz.underlying4 _)) (trodAll_mk2 (Below.trod Tryz.laidOut (by kernel_rfl) (of_decide_eq_true (by kernel_rfl)) h0k hb (fun x hx => hW'.lt x (by simp [hx]))) (Below.trod Tryz.laidOut (by kernel_rfl) (of_decide_eq_true (by kernel_rfl)) h1k hb (fun x hx => hW'.lt x (by simp [hx])))) rfl (by simp) hb⟩

theorem filePrints_holds : Rows.FilePrintsSaid :=
  OpenClaim.holds_of_wide 5 Tryz.f5 rfl rfl rfl rfl rfl rfl rfl ⟨rfl, rfl, rfl, rfl, rfl⟩ rfl rfl rfl rfl rfl (by kernel_rfl) Tryz.func5 (by kernel_rfl)
    (of_decide_eq_true (by kernel_rfl)) (by unfold Func.isWrapper; first | (rw [if_pos (by decide +kernel)]; kernel_rfl) | (rw [if_neg (by decide +kernel)]; exact ⟨rfl, rfl⟩))
    (fun os started H enc _ => filePrints_lifted os started H enc)
theorem filePrints_card_holds : Rows.FilePrintsCardSaid :=
  Claim7.holds_tied_plain_at .later [] [.data, .pinned] true (true, "b0c12dbdfb5377cc87e754d10e73bb53b77223e7fe1623db068c5b6716bf2ead") true filePrints_holds (fun _ h => by cases h) (by kernel_rfl) (fun _ h => by cases h) filePrints_row_tie rfl ⟨rfl, rfl⟩ (by kernel_rfl) rfl
    (fun f fn hf TU => by
      obtain rfl : f = 5 := Option.some.inj ((show Tryz.prog.funcNamed "tracery/tracerylaw26.FilePrints" = some 5 by kernel_rfl).symm.trans hf) |>.symm
      obtain rfl : fn = Tryz.f5 := (Option.some.inj (Tryz.func5.symm.trans TU)).symm
      exact ⟨by kernel_rfl, fun j t ht => by
        rw [Tryz.params5] at ht
        have hm : t ∈ [31, 3] := by simpa using Array.mem_of_getElem? ht
        have mw : ([31, 3].all fun u => !Tryz.prog.wantsStandIn u) = true := by kernel_rfl
        exact (show Tryz.prog.wantsStandIn t = false by simpa using List.all_eq_true.1 mw t hm)⟩)
    (by kernel_rfl)

end Go.Proofs.YtnfdimfepbbbpaaGreatDoor
