/- Proved: for every room, every memory and every script of calls the IOMMU answers as the chapter says, behind each call the same entries and flag, at the end the same memory: IommuPlays answers true and leaves its arguments alone. No condition. -/
import Derived.Test.YtlgcplekcmocbaaLaw
import Derived.Test.YtlgcplekcmocbaaLaw3
import Derived.Test.YtlgcplekcmocbaaLaw2
import Derived.Test.YtlgcplekcmocbaaUme
namespace Go.Proofs.Ytlgcplekcmocbaa.iommuPlays
open Go.ChangeShapes Go.WideShapes Go.ChangeAt Go.RowKit
set_option linter.unusedVariables false
theorem own : ownKnob Try.prog.godebug = none := by kernel_rfl
theorem laidOut : laidOutB Try.prog = true := by kernel_rfl
set_option maxRecDepth 100000 in
theorem lifted (os : Os) (started : os.Started) (H : Type) (enc : TypeId × Value → H) :
    ReturnsInHanded {} Try.checked os 10 .any (Rows.iommuPlaysSpec.pre6 enc Try.prog Try.f10 Rows.iommuPlaysRow.domain false) (Rows.iommuPlaysSpec.post enc Try.prog Try.f10 false true false false) := by
  refine returnsInHanded_of_change_sized (C := Try.checked) own started (by kernel_rfl) Try.func10
    (ChangeSpec.witness6 (enc := enc) (C := Try.checked) false ⟨#[], #[.int .i64 0, .slice none 0 0, .slice none 0 0], []⟩ 8 (by kernel_rfl) (by kernel_rfl) (by kernel_rfl) (by kernel_rfl)) ?_
  intro W base args ds gs before hval0 hW hcnd hsz _
  have hval : ∀ (j : Nat) t v, Try.f10.params[j]? = some t → args[j]? = some v → Value.okWide Try.prog W .any base t v := hval0
  have hW' := hW
  obtain ⟨p, q, hA0, hV, rfl, hfz, hnd⟩ := hW
  have hA : DataW.TrodAll enc Try.prog W 0 (fun _ => true) true Try.f10.params.toList args.toList ds p := hA0
  rw [Try.params10] at hA hval
  obtain ⟨v0, vs0, d0, ds0, p0, q0, hargs, rfl, rfl, h0, r0⟩ := trodAll_cons hA
  obtain ⟨v1, vs1, d1, ds1, p1, q1, rfl, rfl, rfl, h1, r1⟩ := trodAll_cons r0
  obtain ⟨v2, vs2, d2, ds2, p2, q2, rfl, rfl, rfl, h2, r2⟩ := trodAll_cons r1
  obtain ⟨rfl, rfl, rfl⟩ := trodAll_nil r2
  obtain rfl : args = #[v0, v1, v2] := by cases args; simp_all
  obtain ⟨rfl, rfl⟩ := trodVars_none hV
  obtain ⟨a0, rfl, rfl, rfl, w0⟩ := open_int Try.underlying3 (hval 0 3 v0 rfl rfl) h0
  have b0 : -9223372036854775808 ≤ a0 ∧ a0 ≤ 9223372036854775807 := by simpa [Lit.wf, IntKind.min, IntKind.max, IntKind.signed, IntKind.bits] using w0
  obtain ⟨A1, n1, cap1, xs1, rfl, hc1, hm1, hr1, he1⟩ := open_elems (size := 2) Try.underlying48 (by kernel_rfl) (by omega) (hval 1 48 v1 rfl rfl) h1 (fun x hx => hW'.lt x (by simp [hx]))
  obtain ⟨L1, rfl, hLa1, hLb1⟩ := cells_open (cap := cap1) hr1 he1
  obtain ⟨A2, n2, cap2, xs2, rfl, hc2, hm2, hr2, he2⟩ := open_elems (size := 8) Try.underlying49 (by kernel_rfl) (by omega) (hval 2 49 v2 rfl rfl) h2 (fun x hx => hW'.lt x (by simp [hx]))
  obtain ⟨L2, rfl, hLa2, hLb2⟩ := ops_open (cap := cap2) hr2 he2
  have hz2 := slice_bytes Try.underlying49 h2 (ts := Try.f10.params.toList ++ (Rows.iommuPlaysSpec.plain.varTypes Try.prog)) (j := 2) (by kernel_rfl) (ds := [(.lit (.int .i64 a0)), d1, d2] ++ []) rfl hsz
  rw [show Try.prog.bytesOf 54 = 64 from by kernel_rfl] at hz2
  simp only [List.append_nil] at hW'
  refine (plays_callsI W a0 _ L1 hLa1 (Nat.le_trans hc1 hm1) hLb1 A2 cap2 L2 hLa2 hLb2 hz2).mono fun e W' ⟨he, hg⟩ => ?_
  subst he
  exact ⟨_, rfl, law_post (tb := 4) laidOut (by kernel_rfl) (by kernel_rfl) Try.underlying4 rfl rfl hW' (hg.toBelow (Nat.le_refl _) (fun _ _ h => h))⟩
theorem over : Rows.iommuPlaysRow.holds Try.pinned (OpenSpec.ofChange Rows.iommuPlaysSpec) :=
  OpenClaim.holds_of_wide 10 Try.f10 rfl rfl rfl rfl rfl rfl rfl ⟨rfl, rfl, rfl, rfl, rfl⟩ rfl rfl rfl rfl rfl (by kernel_rfl) Try.func10 (by kernel_rfl)
    (of_decide_eq_true (by kernel_rfl)) (by unfold Func.isWrapper; first | (rw [if_pos (by decide +kernel)]; kernel_rfl) | (rw [if_neg (by decide +kernel)]; exact ⟨rfl, rfl⟩))
    (fun os started H enc _ => lifted os started H enc)
end Go.Proofs.Ytlgcplekcmocbaa.iommuPlays
namespace Go.Proofs.Ytlgcplekcmocbaa
theorem iommuPlays_holds : Rows.IommuPlaysSaid := iommuPlays.over
end Go.Proofs.Ytlgcplekcmocbaa
