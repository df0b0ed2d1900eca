/-
  The statement AuditAgrees, for every input: the law answers true and leaves its arguments as they were. No condition.
-/
import Derived.Test.YtnfdimfepbbbpaaGreatJAuditAgrees8
set_option linter.unusedSimpArgs false
set_option linter.unusedVariables false
namespace Go.Proofs.YtnfdimfepbbbpaaGreat
open Go.ChangeShapes Go.WideShapes Go.ChangeAt Go.RowKit

set_option maxRecDepth 100000 in
theorem auditAgrees_lifted (os : Os) (started : os.Started) (H : Type) (enc : TypeId × Value → H) :
    ReturnsInHanded {} Tryz.checked os 4 .any (Rows.auditAgreesSpec.pre6 enc Tryz.prog Tryz.f4 Rows.auditAgreesRow.domain false) (Rows.auditAgreesSpec.post enc Tryz.prog Tryz.f4 false true false false) := by
  refine returnsInHanded_of_change (C := Tryz.checked) Tryz.own started (by kernel_rfl) Tryz.func4
    (ChangeSpec.witness6 (enc := enc) (C := Tryz.checked) false ⟨#[], #[.agg #[.int .i64 0, .slice none 0 0, .slice none 0 0, .slice none 0 0, .slice none 0 0, .slice none 0 0], .agg #[.slice none 0 0, .slice none 0 0]], []⟩ 8 (by kernel_rfl) (by kernel_rfl) (by kernel_rfl) (by kernel_rfl)) ?_
  intro W base args ds gs before U5 hW aci _
  have uE : ∀ (j : Nat) t v, Tryz.f4.params[j]? = some t → args[j]? = some v → Value.okWide Tryz.prog W .any base t v := U5
  have VU := hW
  obtain ⟨p, q, hA0, hV, rfl, hfz, Bc⟩ := hW
  have hA : DataW.TrodAll enc Tryz.prog W 0 (fun _ => true) true Tryz.f4.params.toList args.toList ds p := hA0
  rw [Tryz.params4] at hA uE
  obtain ⟨v0, v1, d0, d1, p0, p1, rfl, rfl, rfl, h0, h1⟩ := trodAll_two hA
  obtain ⟨rfl, rfl⟩ := trodVars_none hV
  have h0k := h0
  obtain ⟨⟨⟨a0, b0⟩, ⟨c0, d0⟩, ⟨e0, f0⟩⟩, g0, k0⟩ := Ig (Ca Tryz.underlying32 (kP Tryz.underlying24 (gY Tryz.underlying3) (dU Tryz.underlying22 (kP Tryz.underlying49 (gY Tryz.underlying3) (gY Tryz.underlying3) rfl rfl (by kernel_rfl) (by kernel_rfl) (by kernel_rfl)) (by kernel_rfl) (by decide)) rfl rfl (by kernel_rfl) (by kernel_rfl) (by kernel_rfl)) (kP Tryz.underlying27 (dU Tryz.underlying25 (gY Tryz.underlying3) (by kernel_rfl) (by decide)) (dU Tryz.underlying25 (gY Tryz.underlying3) (by kernel_rfl) (by decide)) rfl rfl (by kernel_rfl) (by kernel_rfl) (by kernel_rfl)) (kP Tryz.underlying30 (dU Tryz.underlying28 (dU Tryz.underlying25 (gY Tryz.underlying3) (by kernel_rfl) (by decide)) (by kernel_rfl) (by decide)) (dU Tryz.underlying28 (dU Tryz.underlying25 (gY Tryz.underlying3) (by kernel_rfl) (by decide)) (by kernel_rfl) (by decide)) rfl rfl (by kernel_rfl) (by kernel_rfl) (by kernel_rfl)) rfl rfl rfl (by kernel_rfl) (by kernel_rfl) (by kernel_rfl) (by kernel_rfl)) Tryz.underlying32 rfl (uE 0 32 v0 rfl rfl) h0
  have h1k := h1
  obtain ⟨⟨a1, b1⟩, g1, k1⟩ := Ig (kP Tryz.underlying30 (dU Tryz.underlying28 (dU Tryz.underlying25 (gY Tryz.underlying3) (by kernel_rfl) (by decide)) (by kernel_rfl) (by decide)) (dU Tryz.underlying28 (dU Tryz.underlying25 (gY Tryz.underlying3) (by kernel_rfl) (by decide)) (by kernel_rfl) (by decide)) rfl rfl (by kernel_rfl) (by kernel_rfl) (by kernel_rfl)) Tryz.underlying30 rfl (uE 1 30 v1 rfl rfl) h1
  clear hA0 U5
  simp only [List.append_nil] at VU
  refine Calls.mono (wA W a0 b0 c0 d0 e0 f0 a1 b1 v0 v1 g0 g1 k0.1.1 k0.2.2.1 k0.2.2.2 k1.1 k1.2) fun e W' ⟨he, hb⟩ => ?_
  subst he
  exact ⟨_, rfl, zT (pv := []) VU (fun _ _ _ => trodAll_mk1 (shut_bool Tryz.underlying4 _)) (trodAll_mk2 (Below.trod Tryz.laidOut (by kernel_rfl) (of_decide_eq_true (by kernel_rfl)) h0k hb (fun x hx => VU.lt x (by simp [hx]))) (Below.trod Tryz.laidOut (by kernel_rfl) (of_decide_eq_true (by kernel_rfl)) h1k hb (fun x hx => VU.lt x (by simp [hx])))) rfl (by simp) hb⟩

theorem auditAgrees_holds : Rows.AuditAgreesSaid :=
  OpenClaim.holds_of_wide 4 Tryz.f4 rfl rfl rfl rfl rfl rfl rfl ⟨rfl, rfl, rfl, rfl, rfl⟩ rfl rfl rfl rfl rfl (by kernel_rfl) Tryz.func4 (by kernel_rfl)
    (of_decide_eq_true (by kernel_rfl)) (by unfold Func.isWrapper; first | (rw [if_pos (by decide +kernel)]; kernel_rfl) | (rw [if_neg (by decide +kernel)]; exact ⟨rfl, rfl⟩))
    (fun os started H enc _ => auditAgrees_lifted os started H enc)

end Go.Proofs.YtnfdimfepbbbpaaGreat
