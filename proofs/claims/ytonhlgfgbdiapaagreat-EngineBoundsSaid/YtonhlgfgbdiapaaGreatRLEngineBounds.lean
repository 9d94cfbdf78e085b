/- Proved: for all memories, roots and registers a step of an engine behind an IOMMU turns no memory below the ring but the place that the IOMMU tells for its next eight bytes: EngineBounds answers true and leaves its arguments alone. No condition but the reach bound that the row's own reading gives. -/
import Derived.Test.YtonhlgfgbdiapaaGreatLaw
import Derived.Test.YtonhlgfgbdiapaaGreatLaw4
import Derived.Test.YtonhlgfgbdiapaaGreatLaw2
import Derived.Test.YtonhlgfgbdiapaaGreatRmf
namespace Go.Proofs.YtonhlgfgbdiapaaGreat.engineBounds
open Go.ChangeShapes Go.WideShapes Go.ChangeAt Go.RowKit
set_option linter.unusedVariables false
theorem own : ownKnob Tryz.prog.godebug = none := by kernel_rfl
theorem laidOut : laidOutB Tryz.prog = true := by kernel_rfl
set_option maxRecDepth 100000 in
theorem lifted (os : Os) (started : os.Started) (H : Type) (enc : TypeId × Value → H) :
    ReturnsInHanded {} Tryz.checked os 3 .any (Rows.engineBoundsSpec.pre6 enc Tryz.prog Tryz.f3 Rows.engineBoundsRow.domain false) (Rows.engineBoundsSpec.post enc Tryz.prog Tryz.f3 false true false false) := by
  refine returnsInHanded_of_change_sized (C := Tryz.checked) own started (by kernel_rfl) Tryz.func3
    (ChangeSpec.witness6 (enc := enc) (C := Tryz.checked) false ⟨#[], #[.slice none 0 0, .int .u64 0, .slice none 0 0], []⟩ 8 (by kernel_rfl) (by kernel_rfl) (by kernel_rfl) (by kernel_rfl)) ?_
  intro W base args ds gs before hval0 hW hcnd hsz _
  have hval : ∀ (j : Nat) t v, Tryz.f3.params[j]? = some t → args[j]? = some v → Value.okWide Tryz.prog W .any base t v := hval0
  have hW' := hW
  obtain ⟨p, q, hA0, hV, rfl, hfz, hnd⟩ := hW
  have hA : DataW.TrodAll enc Tryz.prog W 0 (fun _ => true) true Tryz.f3.params.toList args.toList ds p := hA0
  rw [Tryz.params3] at hA hval
  obtain ⟨v0, vs0, d0, ds0, p0, q0, hargs, rfl, rfl, h0, r0⟩ := trodAll_cons hA
  obtain ⟨v1, vs1, d1, ds1, p1, q1, rfl, rfl, rfl, h1, r1⟩ := trodAll_cons r0
  obtain ⟨v2, vs2, d2, ds2, p2, q2, rfl, rfl, rfl, h2, r2⟩ := trodAll_cons r1
  obtain ⟨rfl, rfl, rfl⟩ := trodAll_nil r2
  obtain rfl : args = #[v0, v1, v2] := by cases args; simp_all
  obtain ⟨rfl, rfl⟩ := trodVars_none hV
  obtain ⟨a1, rfl, rfl, rfl, w1⟩ := open_int Tryz.underlying23 (hval 1 23 v1 rfl rfl) h1
  have b1 : 0 ≤ a1 ∧ a1 ≤ 18446744073709551615 := by simpa [Lit.wf, IntKind.min, IntKind.max, IntKind.signed, IntKind.bits] using w1
  obtain ⟨A0, n0, cap0, xs0, rfl, hc0, hm0, hr0, he0⟩ := open_elems (size := 2) Tryz.underlying22 (by kernel_rfl) (by omega) (hval 0 22 v0 rfl rfl) h0 (fun x hx => hW'.lt x (by simp [hx]))
  obtain ⟨L0, rfl, hLa0, hLb0⟩ := cells_open (cap := cap0) hr0 he0
  have hz0 := slice_bytes Tryz.underlying22 h0 (ts := Tryz.f3.params.toList ++ (Rows.engineBoundsSpec.plain.varTypes Tryz.prog)) (j := 0) (by kernel_rfl) (ds := [d0, (.lit (.int .u64 a1)), d2] ++ []) rfl hsz
  rw [show Tryz.prog.bytesOf 26 = 16 from by kernel_rfl] at hz0
  obtain ⟨A2, n2, cap2, xs2, rfl, hc2, hm2, hr2, he2⟩ := open_elems (size := 12) Tryz.underlying24 (by kernel_rfl) (by omega) (hval 2 24 v2 rfl rfl) h2 (fun x hx => hW'.lt x (by simp [hx]))
  obtain ⟨L2, rfl, hLa2, hLb2⟩ := op8s_open (cap := cap2) hr2 he2
  simp only [List.append_nil] at hW'
  refine (bounds_callsI W _ L0 hLa0 hz0 hLb0 a1 b1 A2 cap2 L2 hLa2 hLb2 (Nat.le_trans hc2 hm2)).mono fun e W' ⟨he, hg⟩ => ?_
  subst he
  exact ⟨_, rfl, law_post (tb := 4) laidOut (by kernel_rfl) (by kernel_rfl) Tryz.underlying4 rfl rfl hW' (hg.toBelow (Nat.le_refl _) (fun _ _ h => h))⟩
theorem over : Rows.engineBoundsRow.holds Tryz.pinned (OpenSpec.ofChange Rows.engineBoundsSpec) :=
  OpenClaim.holds_of_wide 3 Tryz.f3 rfl rfl rfl rfl rfl rfl rfl ⟨rfl, rfl, rfl, rfl, rfl⟩ rfl rfl rfl rfl rfl (by kernel_rfl) Tryz.func3 (by kernel_rfl)
    (of_decide_eq_true (by kernel_rfl)) (by unfold Func.isWrapper; first | (rw [if_pos (by decide +kernel)]; kernel_rfl) | (rw [if_neg (by decide +kernel)]; exact ⟨rfl, rfl⟩))
    (fun os started H enc _ => lifted os started H enc)
end Go.Proofs.YtonhlgfgbdiapaaGreat.engineBounds
namespace Go.Proofs.YtonhlgfgbdiapaaGreat
theorem engineBounds_holds : Rows.EngineBoundsSaid := engineBounds.over
end Go.Proofs.YtonhlgfgbdiapaaGreat
