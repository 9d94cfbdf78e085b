/- Proved: for any number of harts, any entries that they looked up, any VMID and any order of serves, when each hart has served what was posted no TLB holds anything of that guest any more: StageForgets answers true and leaves its arguments alone. No condition. -/
import Derived.Test.YtpodeclkgcgpgaaLaw
import Derived.Test.YtpodeclkgcgpgaaLaw2
import Derived.Test.YtpodeclkgcgpgaaSf
namespace Go.Proofs.Ytpodeclkgcgpgaa.stageForgets
open Go.ChangeShapes Go.WideShapes Go.ChangeAt Go.RowKit
set_option linter.unusedVariables false
theorem own : ownKnob Try.prog.godebug = none := by kernel_rfl
theorem laidOut : laidOutB Try.prog = true := by kernel_rfl
set_option maxRecDepth 100000 in
theorem lifted (os : Os) (started : os.Started) (H : Type) (enc : TypeId × Value → H) :
    ReturnsInHanded {} Try.checked os 14 .any (Rows.stageForgetsSpec.pre6 enc Try.prog Try.f14 Rows.stageForgetsRow.domain false) (Rows.stageForgetsSpec.post enc Try.prog Try.f14 false true false false) := by
  refine returnsInHanded_of_change_sized (C := Try.checked) own started (by kernel_rfl) Try.func14
    (ChangeSpec.witness6 (enc := enc) (C := Try.checked) false ⟨#[], #[.int .i64 0, .slice none 0 0, .int .i64 0, .slice none 0 0], []⟩ 8 (by kernel_rfl) (by kernel_rfl) (by kernel_rfl) (by kernel_rfl)) ?_
  intro W base args ds gs before hval0 hW hcnd hsz _
  have hval : ∀ (j : Nat) t v, Try.f14.params[j]? = some t → args[j]? = some v → Value.okWide Try.prog W .any base t v := hval0
  have hW' := hW
  obtain ⟨p, q, hA0, hV, rfl, hfz, hnd⟩ := hW
  have hA : DataW.TrodAll enc Try.prog W 0 (fun _ => true) true Try.f14.params.toList args.toList ds p := hA0
  rw [Try.params14] at hA hval
  obtain ⟨v0, vs0, d0, ds0, p0, q0, hargs, rfl, rfl, h0, r0⟩ := trodAll_cons hA
  obtain ⟨v1, vs1, d1, ds1, p1, q1, rfl, rfl, rfl, h1, r1⟩ := trodAll_cons r0
  obtain ⟨v2, vs2, d2, ds2, p2, q2, rfl, rfl, rfl, h2, r2⟩ := trodAll_cons r1
  obtain ⟨v3, vs3, d3, ds3, p3, q3, rfl, rfl, rfl, h3, r3⟩ := trodAll_cons r2
  obtain ⟨rfl, rfl, rfl⟩ := trodAll_nil r3
  obtain rfl : args = #[v0, v1, v2, v3] := by cases args; simp_all
  obtain ⟨rfl, rfl⟩ := trodVars_none hV
  obtain ⟨a0, rfl, rfl, rfl, w0⟩ := open_int Try.underlying3 (hval 0 3 v0 rfl rfl) h0
  have b0 : -9223372036854775808 ≤ a0 ∧ a0 ≤ 9223372036854775807 := by simpa [Lit.wf, IntKind.min, IntKind.max, IntKind.signed, IntKind.bits] using w0
  obtain ⟨a2, rfl, rfl, rfl, w2⟩ := open_int Try.underlying3 (hval 2 3 v2 rfl rfl) h2
  have b2 : -9223372036854775808 ≤ a2 ∧ a2 ≤ 9223372036854775807 := by simpa [Lit.wf, IntKind.min, IntKind.max, IntKind.signed, IntKind.bits] using w2
  obtain ⟨A1, n1, cap1, xs1, rfl, hc1, hm1, hr1, he1⟩ := open_elems (size := 4) Try.underlying97 (by kernel_rfl) (by omega) (hval 1 97 v1 rfl rfl) h1 (fun x hx => hW'.lt x (by simp [hx]))
  have hf1 : ∀ i, i < n1 → (∃ z, xs1[i * 4 + 0]? = some (.int .i64 z) ∧ (Lit.int .i64 z).wf = true) ∧ (∃ z, xs1[i * 4 + 1]? = some (.int .i64 z) ∧ (Lit.int .i64 z).wf = true) ∧ (∃ z, xs1[i * 4 + 2]? = some (.int .i64 z) ∧ (Lit.int .i64 z).wf = true) ∧ (∃ z, xs1[i * 4 + 3]? = some (.int .u64 z) ∧ (Lit.int .u64 z).wf = true) := fun i hi => by
    obtain ⟨_, _, _, htr, _⟩ := he1 i hi
    exact ⟨struct_int (j := 0) Try.underlying113 rfl Try.underlying3 (by kernel_rfl) (by decide) htr, struct_int (j := 1) Try.underlying113 rfl Try.underlying3 (by kernel_rfl) (by decide) htr, struct_int (j := 2) Try.underlying113 rfl Try.underlying3 (by kernel_rfl) (by decide) htr, struct_int (j := 3) Try.underlying113 rfl Try.underlying30 (by kernel_rfl) (by decide) htr⟩
  obtain ⟨A3, cap3, a3, rfl, hc3, hm3, hr3, hw3⟩ := open_ints_arg Try.underlying45 Try.underlying3 (by kernel_rfl) (hval 3 45 v3 rfl rfl) h3 (fun x hx => hW'.lt x (by simp [hx]))
  have hz3 := slice_bytes Try.underlying45 h3 (ts := Try.f14.params.toList ++ (Rows.stageForgetsSpec.plain.varTypes Try.prog)) (j := 3) (by kernel_rfl) (ds := [(.lit (.int .i64 a0)), d1, (.lit (.int .i64 a2)), d3] ++ []) rfl hsz
  rw [show Try.prog.bytesOf 3 = 8 from by kernel_rfl] at hz3
  simp only [List.append_nil] at hW'
  refine (forgets_calls a0 a2 b0 b2 A1 cap1 n1 xs1 A3 cap3 a3 W hr1 (by unfold maxLen at hm1; omega) (fun i hi => by obtain ⟨⟨k, hk, wk⟩, ⟨z, hz, wz⟩, ⟨v, hv, wv⟩, ⟨y, hy, wy⟩⟩ := hf1 i hi; exact ⟨k, z, v, y, ⟨hk, hz, hv, hy⟩, bd_i64 wz⟩) hr3 (by omega) (fun z hz => bd_i64 (hw3 z hz))).mono fun e W' ⟨he, hg⟩ => ?_
  subst he
  exact ⟨_, rfl, law_post (tb := 4) laidOut (by kernel_rfl) (by kernel_rfl) Try.underlying4 rfl rfl hW' (hg.toBelow (Nat.le_refl _) (fun _ _ h => h))⟩
theorem over : Rows.stageForgetsRow.holds Try.pinned (OpenSpec.ofChange Rows.stageForgetsSpec) :=
  OpenClaim.holds_of_wide 14 Try.f14 rfl rfl rfl rfl rfl rfl rfl ⟨rfl, rfl, rfl, rfl, rfl⟩ rfl rfl rfl rfl rfl (by kernel_rfl) Try.func14 (by kernel_rfl)
    (of_decide_eq_true (by kernel_rfl)) (by unfold Func.isWrapper; first | (rw [if_pos (by decide +kernel)]; kernel_rfl) | (rw [if_neg (by decide +kernel)]; exact ⟨rfl, rfl⟩))
    (fun os started H enc _ => lifted os started H enc)
end Go.Proofs.Ytpodeclkgcgpgaa.stageForgets
namespace Go.Proofs.Ytpodeclkgcgpgaa
theorem stageForgets_holds : Rows.StageForgetsSaid := stageForgets.over
end Go.Proofs.Ytpodeclkgcgpgaa
