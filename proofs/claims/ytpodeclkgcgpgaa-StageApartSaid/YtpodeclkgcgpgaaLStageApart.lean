/- Proved: for all pages that two guests map, every place and every number, what one maps and writes is not found in the other's pages, and its tables name none of the other's frames: StageApart answers true and leaves its arguments alone. No condition. -/
import Derived.Test.YtpodeclkgcgpgaaLaw
import Derived.Test.YtpodeclkgcgpgaaLaw2
import Derived.Test.YtpodeclkgcgpgaaSe
namespace Go.Proofs.Ytpodeclkgcgpgaa.stageApart
open Go.ChangeShapes Go.WideShapes Go.ChangeAt Go.RowKit
set_option linter.unusedVariables false
theorem own : ownKnob Try.prog.godebug = none := by kernel_rfl
theorem laidOut : laidOutB Try.prog = true := by kernel_rfl
set_option maxRecDepth 100000 in
theorem lifted (os : Os) (started : os.Started) (H : Type) (enc : TypeId × Value → H) :
    ReturnsInHanded {} Try.checked os 15 .any (Rows.stageApartSpec.pre6 enc Try.prog Try.f15 Rows.stageApartRow.domain false) (Rows.stageApartSpec.post enc Try.prog Try.f15 false true false false) := by
  refine returnsInHanded_of_change (C := Try.checked) own started (by kernel_rfl) Try.func15
    (ChangeSpec.witness6 (enc := enc) (C := Try.checked) false ⟨#[], #[.slice none 0 0, .slice none 0 0, .int .i64 0, .int .u64 0], []⟩ 8 (by kernel_rfl) (by kernel_rfl) (by kernel_rfl) (by kernel_rfl)) ?_
  intro W base args ds gs before hval0 hW hcnd _
  have hval : ∀ (j : Nat) t v, Try.f15.params[j]? = some t → args[j]? = some v → Value.okWide Try.prog W .any base t v := hval0
  have hW' := hW
  obtain ⟨p, q, hA0, hV, rfl, hfz, hnd⟩ := hW
  have hA : DataW.TrodAll enc Try.prog W 0 (fun _ => true) true Try.f15.params.toList args.toList ds p := hA0
  rw [Try.params15] at hA hval
  obtain ⟨v0, vs0, d0, ds0, p0, q0, hargs, rfl, rfl, h0, r0⟩ := trodAll_cons hA
  obtain ⟨v1, vs1, d1, ds1, p1, q1, rfl, rfl, rfl, h1, r1⟩ := trodAll_cons r0
  obtain ⟨v2, vs2, d2, ds2, p2, q2, rfl, rfl, rfl, h2, r2⟩ := trodAll_cons r1
  obtain ⟨v3, vs3, d3, ds3, p3, q3, rfl, rfl, rfl, h3, r3⟩ := trodAll_cons r2
  obtain ⟨rfl, rfl, rfl⟩ := trodAll_nil r3
  obtain rfl : args = #[v0, v1, v2, v3] := by cases args; simp_all
  obtain ⟨rfl, rfl⟩ := trodVars_none hV
  obtain ⟨a2, rfl, rfl, rfl, w2⟩ := open_int Try.underlying3 (hval 2 3 v2 rfl rfl) h2
  have b2 : -9223372036854775808 ≤ a2 ∧ a2 ≤ 9223372036854775807 := by simpa [Lit.wf, IntKind.min, IntKind.max, IntKind.signed, IntKind.bits] using w2
  obtain ⟨a3, rfl, rfl, rfl, w3⟩ := open_int Try.underlying30 (hval 3 30 v3 rfl rfl) h3
  have b3 : 0 ≤ a3 ∧ a3 ≤ 18446744073709551615 := by simpa [Lit.wf, IntKind.min, IntKind.max, IntKind.signed, IntKind.bits] using w3
  obtain ⟨A0, cap0, a0, rfl, hc0, hm0, hr0, hw0⟩ := open_ints_arg Try.underlying45 Try.underlying3 (by kernel_rfl) (hval 0 45 v0 rfl rfl) h0 (fun x hx => hW'.lt x (by simp [hx]))
  obtain ⟨A1, cap1, a1, rfl, hc1, hm1, hr1, hw1⟩ := open_ints_arg Try.underlying45 Try.underlying3 (by kernel_rfl) (hval 1 45 v1 rfl rfl) h1 (fun x hx => hW'.lt x (by simp [hx]))
  simp only [List.append_nil] at hW'
  refine (apart_calls A0 A1 cap0 cap1 a0 a1 a2 a3 W hr0 (by unfold maxLen at hm0; omega) (fun z hz => bd_i64 (hw0 z hz)) hr1 (by unfold maxLen at hm1; omega) (fun z hz => bd_i64 (hw1 z hz)) b2 ⟨b3.1, by omega⟩).mono fun e W' ⟨he, hg⟩ => ?_
  subst he
  exact ⟨_, rfl, law_post (tb := 4) laidOut (by kernel_rfl) (by kernel_rfl) Try.underlying4 rfl rfl hW' (hg.toBelow (Nat.le_refl _) (fun _ _ h => h))⟩
theorem over : Rows.stageApartRow.holds Try.pinned (OpenSpec.ofChange Rows.stageApartSpec) :=
  OpenClaim.holds_of_wide 15 Try.f15 rfl rfl rfl rfl rfl rfl rfl ⟨rfl, rfl, rfl, rfl, rfl⟩ rfl rfl rfl rfl rfl (by kernel_rfl) Try.func15 (by kernel_rfl)
    (of_decide_eq_true (by kernel_rfl)) (by unfold Func.isWrapper; first | (rw [if_pos (by decide +kernel)]; kernel_rfl) | (rw [if_neg (by decide +kernel)]; exact ⟨rfl, rfl⟩))
    (fun os started H enc _ => lifted os started H enc)
end Go.Proofs.Ytpodeclkgcgpgaa.stageApart
namespace Go.Proofs.Ytpodeclkgcgpgaa
theorem stageApart_holds : Rows.StageApartSaid := stageApart.over
end Go.Proofs.Ytpodeclkgcgpgaa
