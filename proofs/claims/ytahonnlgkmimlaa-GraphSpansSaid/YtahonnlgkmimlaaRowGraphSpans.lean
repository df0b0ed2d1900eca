/-
  The statement GraphSpans, for every input: the law answers true and leaves its arguments as they were. No condition.
-/
import Derived.Test.YtahonnlgkmimlaaRowB
import Derived.Test.YtahonnlgkmimlaaWalkG10
set_option linter.unusedSimpArgs false
set_option linter.unusedVariables false
namespace Go.Proofs.Ytahonnlgkmimlaa
open Go.ChangeShapes Go.WideShapes Go.ChangeAt Go.RowKit

set_option maxRecDepth 100000 in
theorem graphSpans_lifted (os : Os) (started : os.Started) (H : Type) (enc : TypeId × Value → H) :
    ReturnsInHanded {} Try.checked os 4 .any (Rows.graphSpansSpec.pre6 enc Try.prog Try.f4 Rows.graphSpansRow.domain false) (Rows.graphSpansSpec.post enc Try.prog Try.f4 false true false false) := by
  refine returnsInHanded_of_change (C := Try.checked) Try.own started (by kernel_rfl) Try.func4
    (ChangeSpec.witness6 (enc := enc) (C := Try.checked) false ⟨#[], #[.agg #[.int .i64 0, .slice none 0 0], .slice none 0 0], []⟩ 8 (by kernel_rfl) (by kernel_rfl) (by kernel_rfl) (by kernel_rfl)) ?_
  intro W base args ds gs before hval0 hW hcnd _
  have hval : ∀ (j : Nat) t v, Try.f4.params[j]? = some t → args[j]? = some v → Value.okWide Try.prog W .any base t v := hval0
  have hW' := hW
  obtain ⟨p, q, hA0, hV, rfl, hfz, hnd⟩ := hW
  have hA : DataW.TrodAll enc Try.prog W 0 (fun _ => true) true Try.f4.params.toList args.toList ds p := hA0
  rw [Try.params4] at hA hval
  obtain ⟨v0, v1, d0, d1, p0, p1, rfl, rfl, rfl, h0, h1⟩ := trodAll_two hA
  obtain ⟨rfl, rfl⟩ := trodVars_none hV
  have h0k := h0
  obtain ⟨_, ⟨x0, l0⟩, rfl, r0, k0⟩ := arg_struct (opens_pair Try.underlying24 (opens_int Try.underlying3) (opens_slice Try.underlying22 (opens_pair Try.underlying99 (opens_int Try.underlying3) (opens_int Try.underlying3) rfl rfl (by kernel_rfl) (by kernel_rfl) (by kernel_rfl)) (by kernel_rfl) (by decide)) rfl rfl (by kernel_rfl) (by kernel_rfl) (by kernel_rfl)) Try.underlying24 (hval 0 24 v0 rfl rfl) h0
  obtain ⟨_, _, rfl, rfl, u0, rfl, hs0⟩ := r0
  have hh0 := slice_rd hs0; have gg0 := k0.1; try simp only at hh0 gg0
  have h1k := h1
  obtain ⟨l1, hh1, _⟩ := arg_slice (opens_slice Try.underlying27 (opens_int Try.underlying3) (by kernel_rfl) (by decide)) Try.underlying27 (hval 1 27 v1 rfl rfl) h1
  clear hA0 hval0
  simp only [List.append_nil] at hW'
  refine Calls.mono (graphSpans_any x0 u0 l0 v1 l1 W gg0 hh0 hh1) fun e W' ⟨he, hb⟩ => ?_
  subst he
  exact ⟨_, rfl, post_of_below (pv := []) hW' (fun _ _ _ => trodAll_mk1 (shut_bool Try.underlying4 _)) (trodAll_mk2 (Below.trod Try.laidOut (by kernel_rfl) (of_decide_eq_true (by kernel_rfl)) h0k hb (fun x hx => hW'.lt x (by simp [hx]))) (Below.trod Try.laidOut (by kernel_rfl) (of_decide_eq_true (by kernel_rfl)) h1k hb (fun x hx => hW'.lt x (by simp [hx])))) rfl (by simp) hb⟩

theorem graphSpans_holds : Rows.GraphSpansSaid :=
  OpenClaim.holds_of_wide 4 Try.f4 rfl rfl rfl rfl rfl rfl rfl ⟨rfl, rfl, rfl, rfl, rfl⟩ rfl rfl rfl rfl rfl (by kernel_rfl) Try.func4 (by kernel_rfl)
    (of_decide_eq_true (by kernel_rfl)) (by unfold Func.isWrapper; first | (rw [if_pos (by decide +kernel)]; kernel_rfl) | (rw [if_neg (by decide +kernel)]; exact ⟨rfl, rfl⟩))
    (fun os started H enc _ => graphSpans_lifted os started H enc)

end Go.Proofs.Ytahonnlgkmimlaa
