/- Proved: for every number of frames and of harts and every script of takes, releases and acknowledgements each frame has one owner, and takes give the lowest free frame: FrameCounts answers true and leaves its arguments alone. No condition. -/
import Derived.Test.YtpodeclkgcgpgaaLaw
import Derived.Test.YtpodeclkgcgpgaaLaw2
import Derived.Test.YtpodeclkgcgpgaaF6
namespace Go.Proofs.Ytpodeclkgcgpgaa.frameCounts
open Go.ChangeShapes Go.WideShapes Go.ChangeAt Go.RowKit
set_option linter.unusedVariables false
theorem own : ownKnob Try.prog.godebug = none := by kernel_rfl
theorem laidOut : laidOutB Try.prog = true := by kernel_rfl
set_option maxRecDepth 100000 in
theorem lifted (os : Os) (started : os.Started) (H : Type) (enc : TypeId × Value → H) :
    ReturnsInHanded {} Try.checked os 4 .any (Rows.frameCountsSpec.pre6 enc Try.prog Try.f4 Rows.frameCountsRow.domain false) (Rows.frameCountsSpec.post enc Try.prog Try.f4 false true false false) := by
  refine returnsInHanded_of_change (C := Try.checked) own started (by kernel_rfl) Try.func4
    (ChangeSpec.witness6 (enc := enc) (C := Try.checked) false ⟨#[], #[.int .i64 0, .int .i64 0, .slice none 0 0], []⟩ 8 (by kernel_rfl) (by kernel_rfl) (by kernel_rfl) (by kernel_rfl)) ?_
  intro W base args ds gs before hval0 hW hcnd _
  have hval : ∀ (j : Nat) t v, Try.f4.params[j]? = some t → args[j]? = some v → Value.okWide Try.prog W .any base t v := hval0
  have hW' := hW
  obtain ⟨p, q, hA0, hV, rfl, hfz, hnd⟩ := hW
  have hA : DataW.TrodAll enc Try.prog W 0 (fun _ => true) true Try.f4.params.toList args.toList ds p := hA0
  rw [Try.params4] at hA hval
  obtain ⟨v0, vs0, d0, ds0, p0, q0, hargs, rfl, rfl, h0, r0⟩ := trodAll_cons hA
  obtain ⟨v1, vs1, d1, ds1, p1, q1, rfl, rfl, rfl, h1, r1⟩ := trodAll_cons r0
  obtain ⟨v2, vs2, d2, ds2, p2, q2, rfl, rfl, rfl, h2, r2⟩ := trodAll_cons r1
  obtain ⟨rfl, rfl, rfl⟩ := trodAll_nil r2
  obtain rfl : args = #[v0, v1, v2] := by cases args; simp_all
  obtain ⟨rfl, rfl⟩ := trodVars_none hV
  obtain ⟨a0, rfl, rfl, rfl, w0⟩ := open_int Try.underlying3 (hval 0 3 v0 rfl rfl) h0
  have b0 : -9223372036854775808 ≤ a0 ∧ a0 ≤ 9223372036854775807 := by simpa [Lit.wf, IntKind.min, IntKind.max, IntKind.signed, IntKind.bits] using w0
  obtain ⟨a1, rfl, rfl, rfl, w1⟩ := open_int Try.underlying3 (hval 1 3 v1 rfl rfl) h1
  have b1 : -9223372036854775808 ≤ a1 ∧ a1 ≤ 9223372036854775807 := by simpa [Lit.wf, IntKind.min, IntKind.max, IntKind.signed, IntKind.bits] using w1
  obtain ⟨A2, n2, cap2, xs2, rfl, hc2, hm2, hr2, he2⟩ := open_elems (size := 3) Try.underlying22 (by kernel_rfl) (by omega) (hval 2 22 v2 rfl rfl) h2 (fun x hx => hW'.lt x (by simp [hx]))
  have hf2 : ∀ i, i < n2 → (∃ z, xs2[i * 3 + 0]? = some (.int .i64 z) ∧ (Lit.int .i64 z).wf = true) ∧ (∃ z, xs2[i * 3 + 1]? = some (.int .i64 z) ∧ (Lit.int .i64 z).wf = true) ∧ (∃ z, xs2[i * 3 + 2]? = some (.int .u64 z) ∧ (Lit.int .u64 z).wf = true) := fun i hi => by
    obtain ⟨_, _, _, htr, _⟩ := he2 i hi
    exact ⟨struct_int (j := 0) Try.underlying36 rfl Try.underlying3 (by kernel_rfl) (by decide) htr, struct_int (j := 1) Try.underlying36 rfl Try.underlying3 (by kernel_rfl) (by decide) htr, struct_int (j := 2) Try.underlying36 rfl Try.underlying30 (by kernel_rfl) (by decide) htr⟩
  simp only [List.append_nil] at hW'
  refine (counts_calls a0 a1 b0 b1 A2 cap2 n2 xs2 W hr2 (by unfold maxLen at hm2; omega) (fun i hi => by obtain ⟨⟨k, hk, wk⟩, ⟨z, hz, wz⟩, ⟨v, hv, wv⟩⟩ := hf2 i hi; exact ⟨k, z, v, ⟨hk, hz, hv⟩, bd_i64 wk, bd_i64 wz, bd_u64 wv⟩)).mono fun e W' ⟨he, hg⟩ => ?_
  subst he
  exact ⟨_, rfl, law_post (tb := 4) laidOut (by kernel_rfl) (by kernel_rfl) Try.underlying4 rfl rfl hW' (hg.toBelow (Nat.le_refl _) (fun _ _ h => h))⟩
theorem over : Rows.frameCountsRow.holds Try.pinned (OpenSpec.ofChange Rows.frameCountsSpec) :=
  OpenClaim.holds_of_wide 4 Try.f4 rfl rfl rfl rfl rfl rfl rfl ⟨rfl, rfl, rfl, rfl, rfl⟩ rfl rfl rfl rfl rfl (by kernel_rfl) Try.func4 (by kernel_rfl)
    (of_decide_eq_true (by kernel_rfl)) (by unfold Func.isWrapper; first | (rw [if_pos (by decide +kernel)]; kernel_rfl) | (rw [if_neg (by decide +kernel)]; exact ⟨rfl, rfl⟩))
    (fun os started H enc _ => lifted os started H enc)
end Go.Proofs.Ytpodeclkgcgpgaa.frameCounts
namespace Go.Proofs.Ytpodeclkgcgpgaa
theorem frameCounts_holds : Rows.FrameCountsSaid := frameCounts.over
end Go.Proofs.Ytpodeclkgcgpgaa
