/-
  The statement AuditPlays, for every input: the law answers true and leaves its arguments as they were. No condition.
-/
import Derived.Test.YtnfdimfepbbbpaaGreatJAuditPlays8
set_option linter.unusedSimpArgs false
set_option linter.unusedVariables false
namespace Go.Proofs.YtnfdimfepbbbpaaGreat
open Go.ChangeShapes Go.WideShapes Go.ChangeAt Go.RowKit

set_option maxRecDepth 100000 in
theorem auditPlays_lifted (os : Os) (started : os.Started) (H : Type) (enc : TypeId × Value → H) :
    ReturnsInHanded {} Tryz.checked os 3 .any (Rows.auditPlaysSpec.pre6 enc Tryz.prog Tryz.f3 Rows.auditPlaysRow.domain false) (Rows.auditPlaysSpec.post enc Tryz.prog Tryz.f3 false true false false) := by
  refine returnsInHanded_of_change (C := Tryz.checked) Tryz.own started (by kernel_rfl) Tryz.func3
    (ChangeSpec.witness6 (enc := enc) (C := Tryz.checked) false ⟨#[], #[.agg #[.int .i64 0, .slice none 0 0, .slice none 0 0, .slice none 0 0, .slice none 0 0, .slice none 0 0], .agg #[.slice none 0 0, .slice none 0 0]], []⟩ 8 (by kernel_rfl) (by kernel_rfl) (by kernel_rfl) (by kernel_rfl)) ?_
  intro W base args ds gs before U5 hW ab1 _
  have tL : ∀ (j : Nat) t v, Tryz.f3.params[j]? = some t → args[j]? = some v → Value.okWide Tryz.prog W .any base t v := U5
  have VS := hW
  obtain ⟨p, q, hA0, hV, rfl, hfz, Lv⟩ := hW
  have hA : DataW.TrodAll enc Tryz.prog W 0 (fun _ => true) true Tryz.f3.params.toList args.toList ds p := hA0
  rw [Tryz.params3] at hA tL
  obtain ⟨v0, v1, d0, d1, p0, p1, rfl, rfl, rfl, h0, h1⟩ := trodAll_two hA
  obtain ⟨rfl, rfl⟩ := trodVars_none hV
  have h0k := h0
  obtain ⟨⟨⟨a0, b0⟩, ⟨c0, d0⟩, ⟨e0, f0⟩⟩, g0, k0⟩ := Hz (Bk Tryz.underlying32 (j9 Tryz.underlying24 (gJ Tryz.underlying3) (dP Tryz.underlying22 (j9 Tryz.underlying49 (gJ Tryz.underlying3) (gJ Tryz.underlying3) rfl rfl (by kernel_rfl) (by kernel_rfl) (by kernel_rfl)) (by kernel_rfl) (by decide)) rfl rfl (by kernel_rfl) (by kernel_rfl) (by kernel_rfl)) (j9 Tryz.underlying27 (dP Tryz.underlying25 (gJ Tryz.underlying3) (by kernel_rfl) (by decide)) (dP Tryz.underlying25 (gJ Tryz.underlying3) (by kernel_rfl) (by decide)) rfl rfl (by kernel_rfl) (by kernel_rfl) (by kernel_rfl)) (j9 Tryz.underlying30 (dP Tryz.underlying28 (dP Tryz.underlying25 (gJ Tryz.underlying3) (by kernel_rfl) (by decide)) (by kernel_rfl) (by decide)) (dP Tryz.underlying28 (dP Tryz.underlying25 (gJ Tryz.underlying3) (by kernel_rfl) (by decide)) (by kernel_rfl) (by decide)) rfl rfl (by kernel_rfl) (by kernel_rfl) (by kernel_rfl)) rfl rfl rfl (by kernel_rfl) (by kernel_rfl) (by kernel_rfl) (by kernel_rfl)) Tryz.underlying32 rfl (tL 0 32 v0 rfl rfl) h0
  have h1k := h1
  obtain ⟨⟨a1, b1⟩, g1, k1⟩ := Hz (j9 Tryz.underlying30 (dP Tryz.underlying28 (dP Tryz.underlying25 (gJ Tryz.underlying3) (by kernel_rfl) (by decide)) (by kernel_rfl) (by decide)) (dP Tryz.underlying28 (dP Tryz.underlying25 (gJ Tryz.underlying3) (by kernel_rfl) (by decide)) (by kernel_rfl) (by decide)) rfl rfl (by kernel_rfl) (by kernel_rfl) (by kernel_rfl)) Tryz.underlying30 rfl (tL 1 30 v1 rfl rfl) h1
  clear hA0 U5
  simp only [List.append_nil] at VS
  refine Calls.mono (yO W a0 b0 c0 d0 e0 f0 a1 b1 v0 v1 g0 g1 k0.1.1 k0.2.2.1 k0.2.2.2 k1.1 k1.2) fun e W' ⟨he, hb⟩ => ?_
  subst he
  exact ⟨_, rfl, yV (pv := []) VS (fun _ _ _ => trodAll_mk1 (shut_bool Tryz.underlying4 _)) (trodAll_mk2 (Below.trod Tryz.laidOut (by kernel_rfl) (of_decide_eq_true (by kernel_rfl)) h0k hb (fun x hx => VS.lt x (by simp [hx]))) (Below.trod Tryz.laidOut (by kernel_rfl) (of_decide_eq_true (by kernel_rfl)) h1k hb (fun x hx => VS.lt x (by simp [hx])))) rfl (by simp) hb⟩

theorem auditPlays_holds : Rows.AuditPlaysSaid :=
  OpenClaim.holds_of_wide 3 Tryz.f3 rfl rfl rfl rfl rfl rfl rfl ⟨rfl, rfl, rfl, rfl, rfl⟩ rfl rfl rfl rfl rfl (by kernel_rfl) Tryz.func3 (by kernel_rfl)
    (of_decide_eq_true (by kernel_rfl)) (by unfold Func.isWrapper; first | (rw [if_pos (by decide +kernel)]; kernel_rfl) | (rw [if_neg (by decide +kernel)]; exact ⟨rfl, rfl⟩))
    (fun os started H enc _ => auditPlays_lifted os started H enc)

end Go.Proofs.YtnfdimfepbbbpaaGreat
