/- Proved: whatever frames are sent from whatever ports, a switch sends them to where the chapter says, and learns where cards stand: VirtdevSwitches answers true and leaves its arguments alone. No condition. -/
import Derived.Test.YtpknabblllighaaLaw
import Derived.Test.YtpknabblllighaaLaw5
import Derived.Test.YtpknabblllighaaLaw2
import Derived.Test.YtpknabblllighaaVw5
namespace Go.Proofs.Ytpknabblllighaa.virtdevSwitches
open Go.ChangeShapes Go.WideShapes Go.ChangeAt Go.RowKit
set_option linter.unusedVariables false
theorem own : ownKnob Try.prog.godebug = none := by kernel_rfl
theorem laidOut : laidOutB Try.prog = true := by kernel_rfl
set_option maxRecDepth 100000 in
theorem lifted (os : Os) (started : os.Started) (H : Type) (enc : TypeId × Value → H) :
    ReturnsInHanded {} Try.checked os 3 .any (Rows.virtdevSwitchesSpec.pre6 enc Try.prog Try.f3 Rows.virtdevSwitchesRow.domain false) (Rows.virtdevSwitchesSpec.post enc Try.prog Try.f3 false true false false) := by
  refine returnsInHanded_of_change_sized (C := Try.checked) own started (by kernel_rfl) Try.func3
    (ChangeSpec.witness6 (enc := enc) (C := Try.checked) false ⟨#[], #[.int .i64 0, .slice none 0 0, .slice none 0 0], []⟩ 8 (by kernel_rfl) (by kernel_rfl) (by kernel_rfl) (by kernel_rfl)) ?_
  intro W base args ds gs before hval0 hW hcnd hsz _
  have hval : ∀ (j : Nat) t v, Try.f3.params[j]? = some t → args[j]? = some v → Value.okWide Try.prog W .any base t v := hval0
  have hW' := hW
  obtain ⟨p, q, hA0, hV, rfl, hfz, hnd⟩ := hW
  have hA : DataW.TrodAll enc Try.prog W 0 (fun _ => true) true Try.f3.params.toList args.toList ds p := hA0
  rw [Try.params3] at hA hval
  obtain ⟨v0, vs0, d0, ds0, p0, q0, hargs, rfl, rfl, h0, r0⟩ := trodAll_cons hA
  obtain ⟨v1, vs1, d1, ds1, p1, q1, rfl, rfl, rfl, h1, r1⟩ := trodAll_cons r0
  obtain ⟨v2, vs2, d2, ds2, p2, q2, rfl, rfl, rfl, h2, r2⟩ := trodAll_cons r1
  obtain ⟨rfl, rfl, rfl⟩ := trodAll_nil r2
  obtain rfl : args = #[v0, v1, v2] := by cases args; simp_all
  obtain ⟨rfl, rfl⟩ := trodVars_none hV
  obtain ⟨a0, rfl, rfl, rfl, w0⟩ := open_int Try.underlying3 (hval 0 3 v0 rfl rfl) h0
  have b0 : -9223372036854775808 ≤ a0 ∧ a0 ≤ 9223372036854775807 := by simpa [Lit.wf, IntKind.min, IntKind.max, IntKind.signed, IntKind.bits] using w0
  obtain ⟨A1, cap1, a1, rfl, hc1, hm1, hr1, hw1⟩ := open_ints_arg Try.underlying22 Try.underlying3 (by kernel_rfl) (hval 1 22 v1 rfl rfl) h1 (fun x hx => hW'.lt x (by simp [hx]))
  obtain ⟨A2, n2, cap2, xs2, rfl, hc2, hm2, hr2, hB2⟩ := open_rows Try.underlying23 Try.underlying34 Try.underlying5 (by kernel_rfl) (by kernel_rfl) (by kernel_rfl) (hval 2 23 v2 rfl rfl) h2 (fun x hx => hW'.lt x (by simp [hx]))
  obtain ⟨hz2, he2⟩ := hB2 140737488351232 (sized_weights (ts := Try.f3.params.toList ++ (Rows.virtdevSwitchesSpec.plain.varTypes Try.prog)) (ds := [(.lit (.int .i64 a0)), d1, d2] ++ []) (j := 2) (t := 23) (by kernel_rfl) rfl hsz)
  rw [show Try.prog.bytesOf 34 = 24 from by kernel_rfl] at hz2
  simp only [List.append_nil] at hW'
  refine (switches_calls a0 b0 A1 cap1 a1 W hr1 (by unfold maxLen at hm1; omega) (fun z hz => bd_i64 (hw1 z hz)) A2 n2 cap2 xs2 hr2 (by omega) (fun i hi => by obtain ⟨A', c', bs, q1, q2, q3, q4, q5, q6⟩ := he2 i hi; exact ⟨A', c', bs, q1, q2, q3, q4, fun b hb => bd_u8 (q5 b hb), q6⟩)).mono fun e W' ⟨he, hg⟩ => ?_
  subst he
  exact ⟨_, rfl, law_post (tb := 4) laidOut (by kernel_rfl) (by kernel_rfl) Try.underlying4 rfl rfl hW' (hg.toBelow (Nat.le_refl _) (fun _ _ h => h))⟩
theorem over : Rows.virtdevSwitchesRow.holds Try.pinned (OpenSpec.ofChange Rows.virtdevSwitchesSpec) :=
  OpenClaim.holds_of_wide 3 Try.f3 rfl rfl rfl rfl rfl rfl rfl ⟨rfl, rfl, rfl, rfl, rfl⟩ rfl rfl rfl rfl rfl (by kernel_rfl) Try.func3 (by kernel_rfl)
    (of_decide_eq_true (by kernel_rfl)) (by unfold Func.isWrapper; first | (rw [if_pos (by decide +kernel)]; kernel_rfl) | (rw [if_neg (by decide +kernel)]; exact ⟨rfl, rfl⟩))
    (fun os started H enc _ => lifted os started H enc)
end Go.Proofs.Ytpknabblllighaa.virtdevSwitches
namespace Go.Proofs.Ytpknabblllighaa
theorem virtdevSwitches_holds : Rows.VirtdevSwitchesSaid := virtdevSwitches.over
end Go.Proofs.Ytpknabblllighaa
