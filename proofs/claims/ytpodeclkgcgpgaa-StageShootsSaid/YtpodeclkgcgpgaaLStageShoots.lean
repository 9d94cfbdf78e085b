/- Proved: for any number of harts and any script of posts, serves and entries put in, who is due what, what is flushed and when all is done are as the document says: StageShoots answers true and leaves its arguments alone. No condition. -/
import Derived.Test.YtpodeclkgcgpgaaLaw
import Derived.Test.YtpodeclkgcgpgaaLaw2
import Derived.Test.YtpodeclkgcgpgaaSs2
namespace Go.Proofs.Ytpodeclkgcgpgaa.stageShoots
open Go.ChangeShapes Go.WideShapes Go.ChangeAt Go.RowKit
set_option linter.unusedVariables false
theorem own : ownKnob Try.prog.godebug = none := by kernel_rfl
theorem laidOut : laidOutB Try.prog = true := by kernel_rfl
set_option maxRecDepth 100000 in
theorem lifted (os : Os) (started : os.Started) (H : Type) (enc : TypeId × Value → H) :
    ReturnsInHanded {} Try.checked os 13 .any (Rows.stageShootsSpec.pre6 enc Try.prog Try.f13 Rows.stageShootsRow.domain false) (Rows.stageShootsSpec.post enc Try.prog Try.f13 false true false false) := by
  refine returnsInHanded_of_change (C := Try.checked) own started (by kernel_rfl) Try.func13
    (ChangeSpec.witness6 (enc := enc) (C := Try.checked) false ⟨#[], #[.int .i64 0, .slice none 0 0], []⟩ 8 (by kernel_rfl) (by kernel_rfl) (by kernel_rfl) (by kernel_rfl)) ?_
  intro W base args ds gs before hval0 hW hcnd _
  have hval : ∀ (j : Nat) t v, Try.f13.params[j]? = some t → args[j]? = some v → Value.okWide Try.prog W .any base t v := hval0
  have hW' := hW
  obtain ⟨p, q, hA0, hV, rfl, hfz, hnd⟩ := hW
  have hA : DataW.TrodAll enc Try.prog W 0 (fun _ => true) true Try.f13.params.toList args.toList ds p := hA0
  rw [Try.params13] at hA hval
  obtain ⟨v0, vs0, d0, ds0, p0, q0, hargs, rfl, rfl, h0, r0⟩ := trodAll_cons hA
  obtain ⟨v1, vs1, d1, ds1, p1, q1, rfl, rfl, rfl, h1, r1⟩ := trodAll_cons r0
  obtain ⟨rfl, rfl, rfl⟩ := trodAll_nil r1
  obtain rfl : args = #[v0, v1] := by cases args; simp_all
  obtain ⟨rfl, rfl⟩ := trodVars_none hV
  obtain ⟨a0, rfl, rfl, rfl, w0⟩ := open_int Try.underlying3 (hval 0 3 v0 rfl rfl) h0
  have b0 : -9223372036854775808 ≤ a0 ∧ a0 ≤ 9223372036854775807 := by simpa [Lit.wf, IntKind.min, IntKind.max, IntKind.signed, IntKind.bits] using w0
  obtain ⟨A1, n1, cap1, xs1, rfl, hc1, hm1, hr1, he1⟩ := open_elems (size := 4) Try.underlying97 (by kernel_rfl) (by omega) (hval 1 97 v1 rfl rfl) h1 (fun x hx => hW'.lt x (by simp [hx]))
  have hf1 : ∀ i, i < n1 → (∃ z, xs1[i * 4 + 0]? = some (.int .i64 z) ∧ (Lit.int .i64 z).wf = true) ∧ (∃ z, xs1[i * 4 + 1]? = some (.int .i64 z) ∧ (Lit.int .i64 z).wf = true) ∧ (∃ z, xs1[i * 4 + 2]? = some (.int .i64 z) ∧ (Lit.int .i64 z).wf = true) ∧ (∃ z, xs1[i * 4 + 3]? = some (.int .u64 z) ∧ (Lit.int .u64 z).wf = true) := fun i hi => by
    obtain ⟨_, _, _, htr, _⟩ := he1 i hi
    exact ⟨struct_int (j := 0) Try.underlying113 rfl Try.underlying3 (by kernel_rfl) (by decide) htr, struct_int (j := 1) Try.underlying113 rfl Try.underlying3 (by kernel_rfl) (by decide) htr, struct_int (j := 2) Try.underlying113 rfl Try.underlying3 (by kernel_rfl) (by decide) htr, struct_int (j := 3) Try.underlying113 rfl Try.underlying30 (by kernel_rfl) (by decide) htr⟩
  simp only [List.append_nil] at hW'
  refine (shoots_calls a0 b0 A1 cap1 n1 xs1 W hr1 (by unfold maxLen at hm1; omega) (fun i hi => by obtain ⟨⟨k, hk, wk⟩, ⟨z, hz, wz⟩, ⟨v, hv, wv⟩, ⟨y, hy, wy⟩⟩ := hf1 i hi; exact ⟨k, z, v, y, ⟨hk, hz, hv, hy⟩, bd_i64 wk, bd_i64 wz⟩)).mono fun e W' ⟨he, hg⟩ => ?_
  subst he
  exact ⟨_, rfl, law_post (tb := 4) laidOut (by kernel_rfl) (by kernel_rfl) Try.underlying4 rfl rfl hW' (hg.toBelow (Nat.le_refl _) (fun _ _ h => h))⟩
theorem over : Rows.stageShootsRow.holds Try.pinned (OpenSpec.ofChange Rows.stageShootsSpec) :=
  OpenClaim.holds_of_wide 13 Try.f13 rfl rfl rfl rfl rfl rfl rfl ⟨rfl, rfl, rfl, rfl, rfl⟩ rfl rfl rfl rfl rfl (by kernel_rfl) Try.func13 (by kernel_rfl)
    (of_decide_eq_true (by kernel_rfl)) (by unfold Func.isWrapper; first | (rw [if_pos (by decide +kernel)]; kernel_rfl) | (rw [if_neg (by decide +kernel)]; exact ⟨rfl, rfl⟩))
    (fun os started H enc _ => lifted os started H enc)
end Go.Proofs.Ytpodeclkgcgpgaa.stageShoots
namespace Go.Proofs.Ytpodeclkgcgpgaa
theorem stageShoots_holds : Rows.StageShootsSaid := stageShoots.over
end Go.Proofs.Ytpodeclkgcgpgaa
