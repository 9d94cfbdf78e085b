/- Proved: for every list of bases, list of switches and address, an address is a slot's just within the page of its base, when the command lets it, and the lowest such slot has it: PciFinds answers true and leaves its arguments alone. No condition. -/
import Derived.Test.YtibhialnaibkjaaLaw
import Derived.Test.YtibhialnaibkjaaPciF
namespace Go.Proofs.Ytibhialnaibkjaa.pciFinds
open Go.ChangeShapes Go.WideShapes Go.ChangeAt Go.RowKit
set_option linter.unusedVariables false
theorem own : ownKnob Try.prog.godebug = none := by kernel_rfl
theorem laidOut : laidOutB Try.prog = true := by kernel_rfl
set_option maxRecDepth 100000 in
theorem lifted (os : Os) (started : os.Started) (H : Type) (enc : TypeId × Value → H) :
    ReturnsInHanded {} Try.checked os 6 .any (Rows.pciFindsSpec.pre6 enc Try.prog Try.f6 Rows.pciFindsRow.domain false) (Rows.pciFindsSpec.post enc Try.prog Try.f6 false true false false) := by
  refine returnsInHanded_of_change (C := Try.checked) own started (by kernel_rfl) Try.func6
    (ChangeSpec.witness6 (enc := enc) (C := Try.checked) false ⟨#[], #[.slice none 0 0, .slice none 0 0, .int .u64 0], []⟩ 8 (by kernel_rfl) (by kernel_rfl) (by kernel_rfl) (by kernel_rfl)) ?_
  intro W base args ds gs before hval0 hW hcnd _
  have hval : ∀ (j : Nat) t v, Try.f6.params[j]? = some t → args[j]? = some v → Value.okWide Try.prog W .any base t v := hval0
  have hW' := hW
  obtain ⟨p, q, hA0, hV, rfl, hfz, hnd⟩ := hW
  have hA : DataW.TrodAll enc Try.prog W 0 (fun _ => true) true Try.f6.params.toList args.toList ds p := hA0
  rw [Try.params6] at hA hval
  obtain ⟨v0, vs0, d0, ds0, p0, q0, hargs, rfl, rfl, h0, r0⟩ := trodAll_cons hA
  obtain ⟨v1, vs1, d1, ds1, p1, q1, rfl, rfl, rfl, h1, r1⟩ := trodAll_cons r0
  obtain ⟨v2, vs2, d2, ds2, p2, q2, rfl, rfl, rfl, h2, r2⟩ := trodAll_cons r1
  obtain ⟨rfl, rfl, rfl⟩ := trodAll_nil r2
  obtain rfl : args = #[v0, v1, v2] := by cases args; simp_all
  obtain ⟨rfl, rfl⟩ := trodVars_none hV
  obtain ⟨a2, rfl, rfl, rfl, w2⟩ := open_int Try.underlying22 (hval 2 22 v2 rfl rfl) h2
  have b2 : 0 ≤ a2 ∧ a2 ≤ 18446744073709551615 := by simpa [Lit.wf, IntKind.min, IntKind.max, IntKind.signed, IntKind.bits] using w2
  obtain ⟨A0, cap0, a0, rfl, hc0, hm0, hr0, hw0⟩ := open_ints_arg Try.underlying39 Try.underlying22 (by kernel_rfl) (hval 0 39 v0 rfl rfl) h0 (fun x hx => hW'.lt x (by simp [hx]))
  obtain ⟨A1, cap1, a1, rfl, hc1, hm1, hr1⟩ := open_bools_arg Try.underlying40 Try.underlying4 (by kernel_rfl) (hval 1 40 v1 rfl rfl) h1 (fun x hx => hW'.lt x (by simp [hx]))
  simp only [List.append_nil] at hW'
  refine (finds_calls A0 A1 cap0 cap1 a0 a1 a2 W hr0 (fun z hz => bd_u64 (hw0 z hz)) hr1 (by unfold maxLen at hm0; omega) (by unfold maxLen at hm1; omega) b2.1 (by omega)).mono fun e W' ⟨he, hg⟩ => ?_
  subst he
  exact ⟨_, rfl, law_post (tb := 4) laidOut (by kernel_rfl) (by kernel_rfl) Try.underlying4 rfl rfl hW' (hg.toBelow (Nat.le_refl _) (fun _ _ h => h))⟩
theorem over : Rows.pciFindsRow.holds Try.pinned (OpenSpec.ofChange Rows.pciFindsSpec) :=
  OpenClaim.holds_of_wide 6 Try.f6 rfl rfl rfl rfl rfl rfl rfl ⟨rfl, rfl, rfl, rfl, rfl⟩ rfl rfl rfl rfl rfl (by kernel_rfl) Try.func6 (by kernel_rfl)
    (of_decide_eq_true (by kernel_rfl)) (by unfold Func.isWrapper; first | (rw [if_pos (by decide +kernel)]; kernel_rfl) | (rw [if_neg (by decide +kernel)]; exact ⟨rfl, rfl⟩))
    (fun os started H enc _ => lifted os started H enc)
end Go.Proofs.Ytibhialnaibkjaa.pciFinds
namespace Go.Proofs.Ytibhialnaibkjaa
theorem pciFinds_holds : Rows.PciFindsSaid := pciFinds.over
end Go.Proofs.Ytibhialnaibkjaa
