/- Proved: for every memory, every root and every list of accesses what an access comes to does not hang on what the IOMMU remembers, as long as tables stay as they are: IommuForgets answers true and leaves its arguments alone. No condition. -/
import Derived.Test.YtlgcplekcmocbaaLaw
import Derived.Test.YtlgcplekcmocbaaLaw3
import Derived.Test.YtlgcplekcmocbaaLaw2
import Derived.Test.YtlgcplekcmocbaaIoF2
namespace Go.Proofs.Ytlgcplekcmocbaa.iommuForgets
open Go.ChangeShapes Go.WideShapes Go.ChangeAt Go.RowKit
set_option linter.unusedVariables false
theorem own : ownKnob Try.prog.godebug = none := by kernel_rfl
theorem laidOut : laidOutB Try.prog = true := by kernel_rfl
set_option maxRecDepth 100000 in
theorem lifted (os : Os) (started : os.Started) (H : Type) (enc : TypeId × Value → H) :
    ReturnsInHanded {} Try.checked os 7 .any (Rows.iommuForgetsSpec.pre6 enc Try.prog Try.f7 Rows.iommuForgetsRow.domain false) (Rows.iommuForgetsSpec.post enc Try.prog Try.f7 false true false false) := by
  refine returnsInHanded_of_change (C := Try.checked) own started (by kernel_rfl) Try.func7
    (ChangeSpec.witness6 (enc := enc) (C := Try.checked) false ⟨#[], #[.slice none 0 0, .int .u64 0, .slice none 0 0], []⟩ 8 (by kernel_rfl) (by kernel_rfl) (by kernel_rfl) (by kernel_rfl)) ?_
  intro W base args ds gs before hval0 hW hcnd _
  have hval : ∀ (j : Nat) t v, Try.f7.params[j]? = some t → args[j]? = some v → Value.okWide Try.prog W .any base t v := hval0
  have hW' := hW
  obtain ⟨p, q, hA0, hV, rfl, hfz, hnd⟩ := hW
  have hA : DataW.TrodAll enc Try.prog W 0 (fun _ => true) true Try.f7.params.toList args.toList ds p := hA0
  rw [Try.params7] at hA hval
  obtain ⟨v0, vs0, d0, ds0, p0, q0, hargs, rfl, rfl, h0, r0⟩ := trodAll_cons hA
  obtain ⟨v1, vs1, d1, ds1, p1, q1, rfl, rfl, rfl, h1, r1⟩ := trodAll_cons r0
  obtain ⟨v2, vs2, d2, ds2, p2, q2, rfl, rfl, rfl, h2, r2⟩ := trodAll_cons r1
  obtain ⟨rfl, rfl, rfl⟩ := trodAll_nil r2
  obtain rfl : args = #[v0, v1, v2] := by cases args; simp_all
  obtain ⟨rfl, rfl⟩ := trodVars_none hV
  obtain ⟨a1, rfl, rfl, rfl, w1⟩ := open_int Try.underlying22 (hval 1 22 v1 rfl rfl) h1
  have b1 : 0 ≤ a1 ∧ a1 ≤ 18446744073709551615 := by simpa [Lit.wf, IntKind.min, IntKind.max, IntKind.signed, IntKind.bits] using w1
  obtain ⟨A0, n0, cap0, xs0, rfl, hc0, hm0, hr0, he0⟩ := open_elems (size := 2) Try.underlying48 (by kernel_rfl) (by omega) (hval 0 48 v0 rfl rfl) h0 (fun x hx => hW'.lt x (by simp [hx]))
  obtain ⟨L0, rfl, hLa0, hLb0⟩ := cells_open (cap := cap0) hr0 he0
  obtain ⟨A2, n2, cap2, xs2, rfl, hc2, hm2, hr2, he2⟩ := open_elems (size := 8) Try.underlying49 (by kernel_rfl) (by omega) (hval 2 49 v2 rfl rfl) h2 (fun x hx => hW'.lt x (by simp [hx]))
  obtain ⟨L2, rfl, hLa2, hLb2⟩ := ops_open (cap := cap2) hr2 he2
  simp only [List.append_nil] at hW'
  refine (forgets_callsI W _ L0 hLa0 (Nat.le_trans hc0 hm0) hLb0 a1 b1 A2 cap2 L2 hLa2 hLb2 (Nat.le_trans hc2 hm2)).mono fun e W' ⟨he, hg⟩ => ?_
  subst he
  exact ⟨_, rfl, law_post (tb := 4) laidOut (by kernel_rfl) (by kernel_rfl) Try.underlying4 rfl rfl hW' (hg.toBelow (Nat.le_refl _) (fun _ _ h => h))⟩
theorem over : Rows.iommuForgetsRow.holds Try.pinned (OpenSpec.ofChange Rows.iommuForgetsSpec) :=
  OpenClaim.holds_of_wide 7 Try.f7 rfl rfl rfl rfl rfl rfl rfl ⟨rfl, rfl, rfl, rfl, rfl⟩ rfl rfl rfl rfl rfl (by kernel_rfl) Try.func7 (by kernel_rfl)
    (of_decide_eq_true (by kernel_rfl)) (by unfold Func.isWrapper; first | (rw [if_pos (by decide +kernel)]; kernel_rfl) | (rw [if_neg (by decide +kernel)]; exact ⟨rfl, rfl⟩))
    (fun os started H enc _ => lifted os started H enc)
end Go.Proofs.Ytlgcplekcmocbaa.iommuForgets
namespace Go.Proofs.Ytlgcplekcmocbaa
theorem iommuForgets_holds : Rows.IommuForgetsSaid := iommuForgets.over
end Go.Proofs.Ytlgcplekcmocbaa
