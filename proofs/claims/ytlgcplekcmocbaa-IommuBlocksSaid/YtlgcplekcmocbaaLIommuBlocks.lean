/- Proved: for every memory, script, device and with a ring or without one a device without a table reaches nothing: every access of it is blocked, whatever others may do, and leaves one record, or the flag, and nothing else in memory: IommuBlocks answers true and leaves its arguments alone. No condition. -/
import Derived.Test.YtlgcplekcmocbaaLaw
import Derived.Test.YtlgcplekcmocbaaLaw3
import Derived.Test.YtlgcplekcmocbaaLaw2
import Derived.Test.YtlgcplekcmocbaaIoY
namespace Go.Proofs.Ytlgcplekcmocbaa.iommuBlocks
open Go.ChangeShapes Go.WideShapes Go.ChangeAt Go.RowKit
set_option linter.unusedVariables false
theorem own : ownKnob Try.prog.godebug = none := by kernel_rfl
theorem laidOut : laidOutB Try.prog = true := by kernel_rfl
set_option maxRecDepth 100000 in
theorem lifted (os : Os) (started : os.Started) (H : Type) (enc : TypeId × Value → H) :
    ReturnsInHanded {} Try.checked os 9 .any (Rows.iommuBlocksSpec.pre6 enc Try.prog Try.f9 Rows.iommuBlocksRow.domain false) (Rows.iommuBlocksSpec.post enc Try.prog Try.f9 false true false false) := by
  refine returnsInHanded_of_change (C := Try.checked) own started (by kernel_rfl) Try.func9
    (ChangeSpec.witness6 (enc := enc) (C := Try.checked) false ⟨#[], #[.slice none 0 0, .slice none 0 0, .int .i64 0, .bool false], []⟩ 8 (by kernel_rfl) (by kernel_rfl) (by kernel_rfl) (by kernel_rfl)) ?_
  intro W base args ds gs before hval0 hW hcnd _
  have hval : ∀ (j : Nat) t v, Try.f9.params[j]? = some t → args[j]? = some v → Value.okWide Try.prog W .any base t v := hval0
  have hW' := hW
  obtain ⟨p, q, hA0, hV, rfl, hfz, hnd⟩ := hW
  have hA : DataW.TrodAll enc Try.prog W 0 (fun _ => true) true Try.f9.params.toList args.toList ds p := hA0
  rw [Try.params9] at hA hval
  obtain ⟨v0, vs0, d0, ds0, p0, q0, hargs, rfl, rfl, h0, r0⟩ := trodAll_cons hA
  obtain ⟨v1, vs1, d1, ds1, p1, q1, rfl, rfl, rfl, h1, r1⟩ := trodAll_cons r0
  obtain ⟨v2, vs2, d2, ds2, p2, q2, rfl, rfl, rfl, h2, r2⟩ := trodAll_cons r1
  obtain ⟨v3, vs3, d3, ds3, p3, q3, rfl, rfl, rfl, h3, r3⟩ := trodAll_cons r2
  obtain ⟨rfl, rfl, rfl⟩ := trodAll_nil r3
  obtain rfl : args = #[v0, v1, v2, v3] := by cases args; simp_all
  obtain ⟨rfl, rfl⟩ := trodVars_none hV
  obtain ⟨a2, rfl, rfl, rfl, w2⟩ := open_int Try.underlying3 (hval 2 3 v2 rfl rfl) h2
  have b2 : -9223372036854775808 ≤ a2 ∧ a2 ≤ 9223372036854775807 := by simpa [Lit.wf, IntKind.min, IntKind.max, IntKind.signed, IntKind.bits] using w2
  obtain ⟨a3, rfl, rfl, rfl⟩ := open_bool Try.underlying4 (hval 3 4 v3 rfl rfl) h3
  obtain ⟨A0, n0, cap0, xs0, rfl, hc0, hm0, hr0, he0⟩ := open_elems (size := 2) Try.underlying48 (by kernel_rfl) (by omega) (hval 0 48 v0 rfl rfl) h0 (fun x hx => hW'.lt x (by simp [hx]))
  obtain ⟨L0, rfl, hLa0, hLb0⟩ := cells_open (cap := cap0) hr0 he0
  obtain ⟨A1, n1, cap1, xs1, rfl, hc1, hm1, hr1, he1⟩ := open_elems (size := 8) Try.underlying49 (by kernel_rfl) (by omega) (hval 1 49 v1 rfl rfl) h1 (fun x hx => hW'.lt x (by simp [hx]))
  obtain ⟨L1, rfl, hLa1, hLb1⟩ := ops_open (cap := cap1) hr1 he1
  simp only [List.append_nil] at hW'
  refine (blocks_calls W _ L0 hLa0 (by have := Nat.le_trans hc0 hm0; unfold maxLen at this; omega) hLb0 A1 cap1 L1 hLa1 hLb1 (by have := Nat.le_trans hc1 hm1; unfold maxLen at this; omega) a2 b2 a3).mono fun e W' ⟨he, hg⟩ => ?_
  subst he
  exact ⟨_, rfl, law_post (tb := 4) laidOut (by kernel_rfl) (by kernel_rfl) Try.underlying4 rfl rfl hW' (hg.toBelow (Nat.le_refl _) (fun _ _ h => h))⟩
theorem over : Rows.iommuBlocksRow.holds Try.pinned (OpenSpec.ofChange Rows.iommuBlocksSpec) :=
  OpenClaim.holds_of_wide 9 Try.f9 rfl rfl rfl rfl rfl rfl rfl ⟨rfl, rfl, rfl, rfl, rfl⟩ rfl rfl rfl rfl rfl (by kernel_rfl) Try.func9 (by kernel_rfl)
    (of_decide_eq_true (by kernel_rfl)) (by unfold Func.isWrapper; first | (rw [if_pos (by decide +kernel)]; kernel_rfl) | (rw [if_neg (by decide +kernel)]; exact ⟨rfl, rfl⟩))
    (fun os started H enc _ => lifted os started H enc)
end Go.Proofs.Ytlgcplekcmocbaa.iommuBlocks
namespace Go.Proofs.Ytlgcplekcmocbaa
theorem iommuBlocks_holds : Rows.IommuBlocksSaid := iommuBlocks.over
end Go.Proofs.Ytlgcplekcmocbaa
