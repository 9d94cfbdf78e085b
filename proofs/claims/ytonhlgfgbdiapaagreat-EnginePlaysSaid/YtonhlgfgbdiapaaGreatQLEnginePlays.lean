/- Proved: for all devices, memories and scripts an engine behind an IOMMU does what the document's does, as far as the IOMMU lets it, and leaves the same memory and the same entries: EnginePlays answers true and leaves its arguments alone. No condition but the reach bound that the row's own reading gives. -/
import Derived.Test.YtonhlgfgbdiapaaGreatLaw
import Derived.Test.YtonhlgfgbdiapaaGreatLaw4
import Derived.Test.YtonhlgfgbdiapaaGreatLaw2
import Derived.Test.YtonhlgfgbdiapaaGreatQmd
namespace Go.Proofs.YtonhlgfgbdiapaaGreat.enginePlays
open Go.ChangeShapes Go.WideShapes Go.ChangeAt Go.RowKit
set_option linter.unusedVariables false
theorem own : ownKnob Tryz.prog.godebug = none := by kernel_rfl
theorem laidOut : laidOutB Tryz.prog = true := by kernel_rfl
set_option maxRecDepth 100000 in
theorem lifted (os : Os) (started : os.Started) (H : Type) (enc : TypeId × Value → H) :
    ReturnsInHanded {} Tryz.checked os 5 .any (Rows.enginePlaysSpec.pre6 enc Tryz.prog Tryz.f5 Rows.enginePlaysRow.domain false) (Rows.enginePlaysSpec.post enc Tryz.prog Tryz.f5 false true false false) := by
  refine returnsInHanded_of_change_sized (C := Tryz.checked) own started (by kernel_rfl) Tryz.func5
    (ChangeSpec.witness6 (enc := enc) (C := Tryz.checked) false ⟨#[], #[.int .i64 0, .slice none 0 0, .slice none 0 0], []⟩ 8 (by kernel_rfl) (by kernel_rfl) (by kernel_rfl) (by kernel_rfl)) ?_
  intro W base args ds gs before hval0 hW hcnd hsz _
  have hval : ∀ (j : Nat) t v, Tryz.f5.params[j]? = some t → args[j]? = some v → Value.okWide Tryz.prog W .any base t v := hval0
  have hW' := hW
  obtain ⟨p, q, hA0, hV, rfl, hfz, hnd⟩ := hW
  have hA : DataW.TrodAll enc Tryz.prog W 0 (fun _ => true) true Tryz.f5.params.toList args.toList ds p := hA0
  rw [Tryz.params5] at hA hval
  obtain ⟨v0, vs0, d0, ds0, p0, q0, hargs, rfl, rfl, h0, r0⟩ := trodAll_cons hA
  obtain ⟨v1, vs1, d1, ds1, p1, q1, rfl, rfl, rfl, h1, r1⟩ := trodAll_cons r0
  obtain ⟨v2, vs2, d2, ds2, p2, q2, rfl, rfl, rfl, h2, r2⟩ := trodAll_cons r1
  obtain ⟨rfl, rfl, rfl⟩ := trodAll_nil r2
  obtain rfl : args = #[v0, v1, v2] := by cases args; simp_all
  obtain ⟨rfl, rfl⟩ := trodVars_none hV
  obtain ⟨a0, rfl, rfl, rfl, w0⟩ := open_int Tryz.underlying3 (hval 0 3 v0 rfl rfl) h0
  have b0 : -9223372036854775808 ≤ a0 ∧ a0 ≤ 9223372036854775807 := by simpa [Lit.wf, IntKind.min, IntKind.max, IntKind.signed, IntKind.bits] using w0
  obtain ⟨A1, n1, cap1, xs1, rfl, hc1, hm1, hr1, he1⟩ := open_elems (size := 2) Tryz.underlying22 (by kernel_rfl) (by omega) (hval 1 22 v1 rfl rfl) h1 (fun x hx => hW'.lt x (by simp [hx]))
  obtain ⟨L1, rfl, hLa1, hLb1⟩ := cells_open (cap := cap1) hr1 he1
  obtain ⟨A2, n2, cap2, xs2, rfl, hc2, hm2, hr2, he2⟩ := open_elems (size := 12) Tryz.underlying24 (by kernel_rfl) (by omega) (hval 2 24 v2 rfl rfl) h2 (fun x hx => hW'.lt x (by simp [hx]))
  obtain ⟨L2, rfl, hLa2, hLb2⟩ := op8s_open (cap := cap2) hr2 he2
  have hz2 := slice_bytes Tryz.underlying24 h2 (ts := Tryz.f5.params.toList ++ (Rows.enginePlaysSpec.plain.varTypes Tryz.prog)) (j := 2) (by kernel_rfl) (ds := [(.lit (.int .i64 a0)), d1, d2] ++ []) rfl hsz
  rw [show Tryz.prog.bytesOf 51 = 96 from by kernel_rfl] at hz2
  simp only [List.append_nil] at hW'
  refine (plays_callsI W a0 b0 _ L1 hLa1 (Nat.le_trans hc1 hm1) hLb1 A2 cap2 L2 hLa2 hLb2 hz2).mono fun e W' ⟨he, hg⟩ => ?_
  subst he
  exact ⟨_, rfl, law_post (tb := 4) laidOut (by kernel_rfl) (by kernel_rfl) Tryz.underlying4 rfl rfl hW' (hg.toBelow (Nat.le_refl _) (fun _ _ h => h))⟩
theorem over : Rows.enginePlaysRow.holds Tryz.pinned (OpenSpec.ofChange Rows.enginePlaysSpec) :=
  OpenClaim.holds_of_wide 5 Tryz.f5 rfl rfl rfl rfl rfl rfl rfl ⟨rfl, rfl, rfl, rfl, rfl⟩ rfl rfl rfl rfl rfl (by kernel_rfl) Tryz.func5 (by kernel_rfl)
    (of_decide_eq_true (by kernel_rfl)) (by unfold Func.isWrapper; first | (rw [if_pos (by decide +kernel)]; kernel_rfl) | (rw [if_neg (by decide +kernel)]; exact ⟨rfl, rfl⟩))
    (fun os started H enc _ => lifted os started H enc)
end Go.Proofs.YtonhlgfgbdiapaaGreat.enginePlays
namespace Go.Proofs.YtonhlgfgbdiapaaGreat
theorem enginePlays_holds : Rows.EnginePlaysSaid := enginePlays.over
end Go.Proofs.YtonhlgfgbdiapaaGreat
