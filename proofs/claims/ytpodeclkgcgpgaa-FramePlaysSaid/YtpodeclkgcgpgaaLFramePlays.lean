/- Proved: for every number of frames, every reserve, every number of harts and every script of takes, releases, acknowledgements and writes the pool answers as the document's does, behind each call with the same owners, waits and counts, at the end with the same memory: FramePlays answers true and leaves its arguments alone. No condition. -/
import Derived.Test.YtpodeclkgcgpgaaLaw
import Derived.Test.YtpodeclkgcgpgaaLaw2
import Derived.Test.YtpodeclkgcgpgaaF12
namespace Go.Proofs.Ytpodeclkgcgpgaa.framePlays
open Go.ChangeShapes Go.WideShapes Go.ChangeAt Go.RowKit
set_option linter.unusedVariables false
theorem own : ownKnob Try.prog.godebug = none := by kernel_rfl
theorem laidOut : laidOutB Try.prog = true := by kernel_rfl
set_option maxRecDepth 100000 in
theorem lifted (os : Os) (started : os.Started) (H : Type) (enc : TypeId × Value → H) :
    ReturnsInHanded {} Try.checked os 7 .any (Rows.framePlaysSpec.pre6 enc Try.prog Try.f7 Rows.framePlaysRow.domain false) (Rows.framePlaysSpec.post enc Try.prog Try.f7 false true false false) := by
  refine returnsInHanded_of_change (C := Try.checked) own started (by kernel_rfl) Try.func7
    (ChangeSpec.witness6 (enc := enc) (C := Try.checked) false ⟨#[], #[.int .i64 0, .int .i64 0, .int .i64 0, .slice none 0 0], []⟩ 8 (by kernel_rfl) (by kernel_rfl) (by kernel_rfl) (by kernel_rfl)) ?_
  intro W base args ds gs before hval0 hW hcnd _
  have hval : ∀ (j : Nat) t v, Try.f7.params[j]? = some t → args[j]? = some v → Value.okWide Try.prog W .any base t v := hval0
  have hW' := hW
  obtain ⟨p, q, hA0, hV, rfl, hfz, hnd⟩ := hW
  have hA : DataW.TrodAll enc Try.prog W 0 (fun _ => true) true Try.f7.params.toList args.toList ds p := hA0
  rw [Try.params7] at hA hval
  obtain ⟨v0, vs0, d0, ds0, p0, q0, hargs, rfl, rfl, h0, r0⟩ := trodAll_cons hA
  obtain ⟨v1, vs1, d1, ds1, p1, q1, rfl, rfl, rfl, h1, r1⟩ := trodAll_cons r0
  obtain ⟨v2, vs2, d2, ds2, p2, q2, rfl, rfl, rfl, h2, r2⟩ := trodAll_cons r1
  obtain ⟨v3, vs3, d3, ds3, p3, q3, rfl, rfl, rfl, h3, r3⟩ := trodAll_cons r2
  obtain ⟨rfl, rfl, rfl⟩ := trodAll_nil r3
  obtain rfl : args = #[v0, v1, v2, v3] := by cases args; simp_all
  obtain ⟨rfl, rfl⟩ := trodVars_none hV
  obtain ⟨a0, rfl, rfl, rfl, w0⟩ := open_int Try.underlying3 (hval 0 3 v0 rfl rfl) h0
  have b0 : -9223372036854775808 ≤ a0 ∧ a0 ≤ 9223372036854775807 := by simpa [Lit.wf, IntKind.min, IntKind.max, IntKind.signed, IntKind.bits] using w0
  obtain ⟨a1, rfl, rfl, rfl, w1⟩ := open_int Try.underlying3 (hval 1 3 v1 rfl rfl) h1
  have b1 : -9223372036854775808 ≤ a1 ∧ a1 ≤ 9223372036854775807 := by simpa [Lit.wf, IntKind.min, IntKind.max, IntKind.signed, IntKind.bits] using w1
  obtain ⟨a2, rfl, rfl, rfl, w2⟩ := open_int Try.underlying3 (hval 2 3 v2 rfl rfl) h2
  have b2 : -9223372036854775808 ≤ a2 ∧ a2 ≤ 9223372036854775807 := by simpa [Lit.wf, IntKind.min, IntKind.max, IntKind.signed, IntKind.bits] using w2
  obtain ⟨A3, n3, cap3, xs3, rfl, hc3, hm3, hr3, he3⟩ := open_elems (size := 3) Try.underlying22 (by kernel_rfl) (by omega) (hval 3 22 v3 rfl rfl) h3 (fun x hx => hW'.lt x (by simp [hx]))
  have hf3 : ∀ i, i < n3 → (∃ z, xs3[i * 3 + 0]? = some (.int .i64 z) ∧ (Lit.int .i64 z).wf = true) ∧ (∃ z, xs3[i * 3 + 1]? = some (.int .i64 z) ∧ (Lit.int .i64 z).wf = true) ∧ (∃ z, xs3[i * 3 + 2]? = some (.int .u64 z) ∧ (Lit.int .u64 z).wf = true) := fun i hi => by
    obtain ⟨_, _, _, htr, _⟩ := he3 i hi
    exact ⟨struct_int (j := 0) Try.underlying36 rfl Try.underlying3 (by kernel_rfl) (by decide) htr, struct_int (j := 1) Try.underlying36 rfl Try.underlying3 (by kernel_rfl) (by decide) htr, struct_int (j := 2) Try.underlying36 rfl Try.underlying30 (by kernel_rfl) (by decide) htr⟩
  simp only [List.append_nil] at hW'
  refine (plays_calls a0 a1 a2 b0 b1 b2 A3 cap3 n3 xs3 W hr3 (by unfold maxLen at hm3; omega) (fun i hi => by obtain ⟨⟨k, hk, wk⟩, ⟨z, hz, wz⟩, ⟨v, hv, wv⟩⟩ := hf3 i hi; exact ⟨k, z, v, ⟨hk, hz, hv⟩, bd_i64 wk, bd_i64 wz, bd_u64 wv⟩)).mono fun e W' ⟨he, hg⟩ => ?_
  subst he
  exact ⟨_, rfl, law_post (tb := 4) laidOut (by kernel_rfl) (by kernel_rfl) Try.underlying4 rfl rfl hW' (hg.toBelow (Nat.le_refl _) (fun _ _ h => h))⟩
theorem over : Rows.framePlaysRow.holds Try.pinned (OpenSpec.ofChange Rows.framePlaysSpec) :=
  OpenClaim.holds_of_wide 7 Try.f7 rfl rfl rfl rfl rfl rfl rfl ⟨rfl, rfl, rfl, rfl, rfl⟩ rfl rfl rfl rfl rfl (by kernel_rfl) Try.func7 (by kernel_rfl)
    (of_decide_eq_true (by kernel_rfl)) (by unfold Func.isWrapper; first | (rw [if_pos (by decide +kernel)]; kernel_rfl) | (rw [if_neg (by decide +kernel)]; exact ⟨rfl, rfl⟩))
    (fun os started H enc _ => lifted os started H enc)
end Go.Proofs.Ytpodeclkgcgpgaa.framePlays
namespace Go.Proofs.Ytpodeclkgcgpgaa
theorem framePlays_holds : Rows.FramePlaysSaid := framePlays.over
end Go.Proofs.Ytpodeclkgcgpgaa
