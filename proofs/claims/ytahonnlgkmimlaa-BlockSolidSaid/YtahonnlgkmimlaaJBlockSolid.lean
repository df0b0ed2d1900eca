/-
  The statement BlockSolid, for every input: the law answers true and leaves its arguments as they were. No condition.
-/
import Derived.Test.YtahonnlgkmimlaaJBlockSolid7
set_option linter.unusedSimpArgs false
set_option linter.unusedVariables false
namespace Go.Proofs.Ytahonnlgkmimlaa
open Go.ChangeShapes Go.WideShapes Go.ChangeAt Go.RowKit

set_option maxRecDepth 100000 in
theorem blockSolid_lifted (os : Os) (started : os.Started) (H : Type) (enc : TypeId × Value → H) :
    ReturnsInHanded {} Try.checked os 11 .any (Rows.blockSolidSpec.pre6 enc Try.prog Try.f11 Rows.blockSolidRow.domain false) (Rows.blockSolidSpec.post enc Try.prog Try.f11 false true false false) := by
  refine returnsInHanded_of_change (C := Try.checked) Try.own started (by kernel_rfl) Try.func11
    (ChangeSpec.witness6 (enc := enc) (C := Try.checked) false ⟨#[], #[.agg #[.int .i64 0, .slice none 0 0], .agg #[.slice none 0 0, .slice none 0 0], .int .u8 0], []⟩ 8 (by kernel_rfl) (by kernel_rfl) (by kernel_rfl) (by kernel_rfl)) ?_
  intro W base args ds gs before hval0 hW hcnd _
  have hval : ∀ (j : Nat) t v, Try.f11.params[j]? = some t → args[j]? = some v → Value.okWide Try.prog W .any base t v := hval0
  have hW' := hW
  obtain ⟨p, q, hA0, hV, rfl, hfz, hnd⟩ := hW
  have hA : DataW.TrodAll enc Try.prog W 0 (fun _ => true) true Try.f11.params.toList args.toList ds p := hA0
  rw [Try.params11] at hA hval
  obtain ⟨v0, v1, v2, d0, d1, d2, p0, p1, p2, rfl, rfl, rfl, h0, h1, h2⟩ := trodAll_three hA
  obtain ⟨rfl, rfl⟩ := trodVars_none hV
  have h0k := h0
  obtain ⟨_, ⟨x0, l0⟩, rfl, r0, k0⟩ := arg_struct (opens_pair Try.underlying24 (opens_int Try.underlying3) (opens_slice Try.underlying22 (opens_pair Try.underlying99 (opens_int Try.underlying3) (opens_int Try.underlying3) rfl rfl (by kernel_rfl) (by kernel_rfl) (by kernel_rfl)) (by kernel_rfl) (by decide)) rfl rfl (by kernel_rfl) (by kernel_rfl) (by kernel_rfl)) Try.underlying24 (hval 0 24 v0 rfl rfl) h0
  obtain ⟨_, _, rfl, rfl, u0, rfl, hs0⟩ := r0
  have hh0 := slice_rd hs0; have gg0 := k0.1; try simp only at hh0 gg0
  have h1k := h1
  obtain ⟨_, ⟨x1, l1⟩, rfl, r1, k1⟩ := arg_struct (opens_pair Try.underlying29 (opens_slice Try.underlying27 (opens_int Try.underlying3) (by kernel_rfl) (by decide)) (opens_slice Try.underlying27 (opens_int Try.underlying3) (by kernel_rfl) (by decide)) rfl rfl (by kernel_rfl) (by kernel_rfl) (by kernel_rfl)) Try.underlying29 (hval 1 29 v1 rfl rfl) h1
  obtain ⟨_, _, rfl, ⟨u1, rfl, hs1⟩, t1, rfl, js1⟩ := r1
  have hh1 := slice_rd hs1; have kk1 := slice_rd js1; try simp only at hh1 kk1
  have h2k := h2
  obtain ⟨a2, rfl, hh2⟩ := arg_u8 Try.underlying5 (hval 2 5 v2 rfl rfl) h2
  clear hA0 hval0
  simp only [List.append_nil] at hW'
  refine Calls.mono (blockSolid_any x0 u0 l0 u1 t1 x1 l1 a2 W gg0 hh0 hh1 kk1 hh2) fun e W' ⟨he, hb⟩ => ?_
  subst he
  exact ⟨_, rfl, post_of_below (pv := []) hW' (fun _ _ _ => trodAll_mk1 (shut_bool Try.underlying4 _)) (trodAll_mk3 (Below.trod Try.laidOut (by kernel_rfl) (of_decide_eq_true (by kernel_rfl)) h0k hb (fun x hx => hW'.lt x (by simp [hx]))) (Below.trod Try.laidOut (by kernel_rfl) (of_decide_eq_true (by kernel_rfl)) h1k hb (fun x hx => hW'.lt x (by simp [hx]))) (Below.trod Try.laidOut (by kernel_rfl) (of_decide_eq_true (by kernel_rfl)) h2k hb (fun x hx => hW'.lt x (by simp [hx])))) rfl (by simp) hb⟩

theorem blockSolid_holds : Rows.BlockSolidSaid :=
  OpenClaim.holds_of_wide 11 Try.f11 rfl rfl rfl rfl rfl rfl rfl ⟨rfl, rfl, rfl, rfl, rfl⟩ rfl rfl rfl rfl rfl (by kernel_rfl) Try.func11 (by kernel_rfl)
    (of_decide_eq_true (by kernel_rfl)) (by unfold Func.isWrapper; first | (rw [if_pos (by decide +kernel)]; kernel_rfl) | (rw [if_neg (by decide +kernel)]; exact ⟨rfl, rfl⟩))
    (fun os started H enc _ => blockSolid_lifted os started H enc)

end Go.Proofs.Ytahonnlgkmimlaa
