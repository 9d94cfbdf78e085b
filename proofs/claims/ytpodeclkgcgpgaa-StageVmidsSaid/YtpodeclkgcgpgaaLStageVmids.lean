/- Proved: for every script of takes and gives VMIDs are given out once each, the lowest first, and come back only when they are given back: StageVmids answers true and leaves its arguments alone. No condition. -/
import Derived.Test.YtpodeclkgcgpgaaLaw
import Derived.Test.YtpodeclkgcgpgaaSv2
namespace Go.Proofs.Ytpodeclkgcgpgaa.stageVmids
open Go.ChangeShapes Go.WideShapes Go.ChangeAt Go.RowKit
set_option linter.unusedVariables false
theorem own : ownKnob Try.prog.godebug = none := by kernel_rfl
theorem laidOut : laidOutB Try.prog = true := by kernel_rfl
set_option maxRecDepth 100000 in
theorem lifted (os : Os) (started : os.Started) (H : Type) (enc : TypeId × Value → H) :
    ReturnsInHanded {} Try.checked os 9 .any (Rows.stageVmidsSpec.pre6 enc Try.prog Try.f9 Rows.stageVmidsRow.domain false) (Rows.stageVmidsSpec.post enc Try.prog Try.f9 false true false false) := by
  refine returnsInHanded_of_change (C := Try.checked) own started (by kernel_rfl) Try.func9
    (ChangeSpec.witness6 (enc := enc) (C := Try.checked) false ⟨#[], #[.slice none 0 0], []⟩ 8 (by kernel_rfl) (by kernel_rfl) (by kernel_rfl) (by kernel_rfl)) ?_
  intro W base args ds gs before hval0 hW hcnd _
  have hval : ∀ (j : Nat) t v, Try.f9.params[j]? = some t → args[j]? = some v → Value.okWide Try.prog W .any base t v := hval0
  have hW' := hW
  obtain ⟨p, q, hA0, hV, rfl, hfz, hnd⟩ := hW
  have hA : DataW.TrodAll enc Try.prog W 0 (fun _ => true) true Try.f9.params.toList args.toList ds p := hA0
  rw [Try.params9] at hA hval
  obtain ⟨v0, vs0, d0, ds0, p0, q0, hargs, rfl, rfl, h0, r0⟩ := trodAll_cons hA
  obtain ⟨rfl, rfl, rfl⟩ := trodAll_nil r0
  obtain rfl : args = #[v0] := by cases args; simp_all
  obtain ⟨rfl, rfl⟩ := trodVars_none hV
  obtain ⟨A0, cap0, a0, rfl, hc0, hm0, hr0, hw0⟩ := open_ints_arg Try.underlying45 Try.underlying3 (by kernel_rfl) (hval 0 45 v0 rfl rfl) h0 (fun x hx => hW'.lt x (by simp [hx]))
  simp only [List.append_nil] at hW'
  refine (vmids_calls A0 cap0 a0 W hr0 (by unfold maxLen at hm0; omega) (fun z hz => bd_i64 (hw0 z hz))).mono fun e W' ⟨he, hg⟩ => ?_
  subst he
  exact ⟨_, rfl, law_post (tb := 4) laidOut (by kernel_rfl) (by kernel_rfl) Try.underlying4 rfl rfl hW' (hg.toBelow (Nat.le_refl _) (fun _ _ h => h))⟩
theorem over : Rows.stageVmidsRow.holds Try.pinned (OpenSpec.ofChange Rows.stageVmidsSpec) :=
  OpenClaim.holds_of_wide 9 Try.f9 rfl rfl rfl rfl rfl rfl rfl ⟨rfl, rfl, rfl, rfl, rfl⟩ rfl rfl rfl rfl rfl (by kernel_rfl) Try.func9 (by kernel_rfl)
    (of_decide_eq_true (by kernel_rfl)) (by unfold Func.isWrapper; first | (rw [if_pos (by decide +kernel)]; kernel_rfl) | (rw [if_neg (by decide +kernel)]; exact ⟨rfl, rfl⟩))
    (fun os started H enc _ => lifted os started H enc)
end Go.Proofs.Ytpodeclkgcgpgaa.stageVmids
namespace Go.Proofs.Ytpodeclkgcgpgaa
theorem stageVmids_holds : Rows.StageVmidsSaid := stageVmids.over
end Go.Proofs.Ytpodeclkgcgpgaa
