/- Proved: for every list of accesses and every device one whose table was dropped, and whose entries were invalidated, reaches nothing any more, whatever it reached before; another one is not turned by that: IommuDrops answers true and leaves its arguments alone. No condition. -/
import Derived.Test.YtlgcplekcmocbaaLaw
import Derived.Test.YtlgcplekcmocbaaLaw3
import Derived.Test.YtlgcplekcmocbaaLaw2
import Derived.Test.YtlgcplekcmocbaaIoK
namespace Go.Proofs.Ytlgcplekcmocbaa.iommuDrops
open Go.ChangeShapes Go.WideShapes Go.ChangeAt Go.RowKit
set_option linter.unusedVariables false
theorem own : ownKnob Try.prog.godebug = none := by kernel_rfl
theorem laidOut : laidOutB Try.prog = true := by kernel_rfl
set_option maxRecDepth 100000 in
theorem lifted (os : Os) (started : os.Started) (H : Type) (enc : TypeId × Value → H) :
    ReturnsInHanded {} Try.checked os 5 .any (Rows.iommuDropsSpec.pre6 enc Try.prog Try.f5 Rows.iommuDropsRow.domain false) (Rows.iommuDropsSpec.post enc Try.prog Try.f5 false true false false) := by
  refine returnsInHanded_of_change (C := Try.checked) own started (by kernel_rfl) Try.func5
    (ChangeSpec.witness6 (enc := enc) (C := Try.checked) false ⟨#[], #[.slice none 0 0, .int .i64 0], []⟩ 8 (by kernel_rfl) (by kernel_rfl) (by kernel_rfl) (by kernel_rfl)) ?_
  intro W base args ds gs before hval0 hW hcnd _
  have hval : ∀ (j : Nat) t v, Try.f5.params[j]? = some t → args[j]? = some v → Value.okWide Try.prog W .any base t v := hval0
  have hW' := hW
  obtain ⟨p, q, hA0, hV, rfl, hfz, hnd⟩ := hW
  have hA : DataW.TrodAll enc Try.prog W 0 (fun _ => true) true Try.f5.params.toList args.toList ds p := hA0
  rw [Try.params5] at hA hval
  obtain ⟨v0, vs0, d0, ds0, p0, q0, hargs, rfl, rfl, h0, r0⟩ := trodAll_cons hA
  obtain ⟨v1, vs1, d1, ds1, p1, q1, rfl, rfl, rfl, h1, r1⟩ := trodAll_cons r0
  obtain ⟨rfl, rfl, rfl⟩ := trodAll_nil r1
  obtain rfl : args = #[v0, v1] := by cases args; simp_all
  obtain ⟨rfl, rfl⟩ := trodVars_none hV
  obtain ⟨a1, rfl, rfl, rfl, w1⟩ := open_int Try.underlying3 (hval 1 3 v1 rfl rfl) h1
  have b1 : -9223372036854775808 ≤ a1 ∧ a1 ≤ 9223372036854775807 := by simpa [Lit.wf, IntKind.min, IntKind.max, IntKind.signed, IntKind.bits] using w1
  obtain ⟨A0, n0, cap0, xs0, rfl, hc0, hm0, hr0, he0⟩ := open_elems (size := 8) Try.underlying49 (by kernel_rfl) (by omega) (hval 0 49 v0 rfl rfl) h0 (fun x hx => hW'.lt x (by simp [hx]))
  obtain ⟨L0, rfl, hLa0, hLb0⟩ := ops_open (cap := cap0) hr0 he0
  simp only [List.append_nil] at hW'
  refine (drops_calls A0 cap0 L0 a1 W hLa0 hLb0 (by have := Nat.le_trans hc0 hm0; unfold maxLen at this; omega) b1).mono fun e W' ⟨he, hg⟩ => ?_
  subst he
  exact ⟨_, rfl, law_post (tb := 4) laidOut (by kernel_rfl) (by kernel_rfl) Try.underlying4 rfl rfl hW' (hg.toBelow (Nat.le_refl _) (fun _ _ h => h))⟩
theorem over : Rows.iommuDropsRow.holds Try.pinned (OpenSpec.ofChange Rows.iommuDropsSpec) :=
  OpenClaim.holds_of_wide 5 Try.f5 rfl rfl rfl rfl rfl rfl rfl ⟨rfl, rfl, rfl, rfl, rfl⟩ rfl rfl rfl rfl rfl (by kernel_rfl) Try.func5 (by kernel_rfl)
    (of_decide_eq_true (by kernel_rfl)) (by unfold Func.isWrapper; first | (rw [if_pos (by decide +kernel)]; kernel_rfl) | (rw [if_neg (by decide +kernel)]; exact ⟨rfl, rfl⟩))
    (fun os started H enc _ => lifted os started H enc)
end Go.Proofs.Ytlgcplekcmocbaa.iommuDrops
namespace Go.Proofs.Ytlgcplekcmocbaa
theorem iommuDrops_holds : Rows.IommuDropsSaid := iommuDrops.over
end Go.Proofs.Ytlgcplekcmocbaa
