/- Proved: for every list of kinds and every script of reads, writes, finds and rests, the bus and the document's bus answer alike all along and read alike at the end: PciPlays answers true and leaves its arguments alone. No condition. -/
import Derived.Test.YtibhialnaibkjaaLaw
import Derived.Test.YtibhialnaibkjaaLaw2
import Derived.Test.YtibhialnaibkjaaPciP
namespace Go.Proofs.Ytibhialnaibkjaa.pciPlays
open Go.ChangeShapes Go.WideShapes Go.ChangeAt Go.RowKit
set_option linter.unusedVariables false
theorem own : ownKnob Try.prog.godebug = none := by kernel_rfl
theorem laidOut : laidOutB Try.prog = true := by kernel_rfl
set_option maxRecDepth 100000 in
theorem lifted (os : Os) (started : os.Started) (H : Type) (enc : TypeId × Value → H) :
    ReturnsInHanded {} Try.checked os 7 .any (Rows.pciPlaysSpec.pre6 enc Try.prog Try.f7 Rows.pciPlaysRow.domain false) (Rows.pciPlaysSpec.post enc Try.prog Try.f7 false true false false) := by
  refine returnsInHanded_of_change_sized (C := Try.checked) own started (by kernel_rfl) Try.func7
    (ChangeSpec.witness6 (enc := enc) (C := Try.checked) false ⟨#[], #[.slice none 0 0, .slice none 0 0], []⟩ 8 (by kernel_rfl) (by kernel_rfl) (by kernel_rfl) (by kernel_rfl)) ?_
  intro W base args ds gs before hval0 hW hcnd hsz _
  have hval : ∀ (j : Nat) t v, Try.f7.params[j]? = some t → args[j]? = some v → Value.okWide Try.prog W .any base t v := hval0
  have hW' := hW
  obtain ⟨p, q, hA0, hV, rfl, hfz, hnd⟩ := hW
  have hA : DataW.TrodAll enc Try.prog W 0 (fun _ => true) true Try.f7.params.toList args.toList ds p := hA0
  rw [Try.params7] at hA hval
  obtain ⟨v0, vs0, d0, ds0, p0, q0, hargs, rfl, rfl, h0, r0⟩ := trodAll_cons hA
  obtain ⟨v1, vs1, d1, ds1, p1, q1, rfl, rfl, rfl, h1, r1⟩ := trodAll_cons r0
  obtain ⟨rfl, rfl, rfl⟩ := trodAll_nil r1
  obtain rfl : args = #[v0, v1] := by cases args; simp_all
  obtain ⟨rfl, rfl⟩ := trodVars_none hV
  obtain ⟨A0, cap0, a0, rfl, hc0, hm0, hr0, hw0⟩ := open_ints_arg Try.underlying28 Try.underlying3 (by kernel_rfl) (hval 0 28 v0 rfl rfl) h0 (fun x hx => hW'.lt x (by simp [hx]))
  have hz0 := slice_bytes Try.underlying28 h0 (ts := Try.f7.params.toList ++ (Rows.pciPlaysSpec.plain.varTypes Try.prog)) (j := 0) (by kernel_rfl) (ds := [d0, d1] ++ []) rfl hsz
  rw [show Try.prog.bytesOf 3 = 8 from by kernel_rfl] at hz0
  obtain ⟨A1, n1, cap1, xs1, rfl, hc1, hm1, hr1, he1⟩ := open_elems (size := 5) Try.underlying44 (by kernel_rfl) (by omega) (hval 1 44 v1 rfl rfl) h1 (fun x hx => hW'.lt x (by simp [hx]))
  have hf1 : ∀ i, i < n1 → (∃ z, xs1[i * 5 + 0]? = some (.int .i64 z) ∧ (Lit.int .i64 z).wf = true) ∧ (∃ z, xs1[i * 5 + 1]? = some (.int .i64 z) ∧ (Lit.int .i64 z).wf = true) ∧ (∃ z, xs1[i * 5 + 2]? = some (.int .i64 z) ∧ (Lit.int .i64 z).wf = true) ∧ (∃ z, xs1[i * 5 + 3]? = some (.int .u64 z) ∧ (Lit.int .u64 z).wf = true) ∧ (∃ z, xs1[i * 5 + 4]? = some (.int .u64 z) ∧ (Lit.int .u64 z).wf = true) := fun i hi => by
    obtain ⟨_, _, _, htr, _⟩ := he1 i hi
    exact ⟨struct_int (j := 0) Try.underlying49 rfl Try.underlying3 (by kernel_rfl) (by decide) htr, struct_int (j := 1) Try.underlying49 rfl Try.underlying3 (by kernel_rfl) (by decide) htr, struct_int (j := 2) Try.underlying49 rfl Try.underlying3 (by kernel_rfl) (by decide) htr, struct_int (j := 3) Try.underlying49 rfl Try.underlying22 (by kernel_rfl) (by decide) htr, struct_int (j := 4) Try.underlying49 rfl Try.underlying22 (by kernel_rfl) (by decide) htr⟩
  simp only [List.append_nil] at hW'
  refine (plays_calls A0 A1 cap0 cap1 a0 n1 xs1 W hr0 hz0 hr1 (by unfold maxLen at hm1; omega) (fun i hi => by obtain ⟨⟨k, hk, wk⟩, ⟨s, hs, ws⟩, ⟨z, hz, wz⟩, ⟨o, ho, wo⟩, ⟨v, hv, wv⟩⟩ := hf1 i hi; exact ⟨k, s, z, o, v, ⟨hk, hs, hz, ho, hv⟩, bd_i64 wk, bd_i64 ws, bd_i64 wz, bd_u64 wo, bd_u64 wv⟩)).mono fun e W' ⟨he, hg⟩ => ?_
  subst he
  exact ⟨_, rfl, law_post (tb := 4) laidOut (by kernel_rfl) (by kernel_rfl) Try.underlying4 rfl rfl hW' (hg.toBelow (Nat.le_refl _) (fun _ _ h => h))⟩
theorem over : Rows.pciPlaysRow.holds Try.pinned (OpenSpec.ofChange Rows.pciPlaysSpec) :=
  OpenClaim.holds_of_wide 7 Try.f7 rfl rfl rfl rfl rfl rfl rfl ⟨rfl, rfl, rfl, rfl, rfl⟩ rfl rfl rfl rfl rfl (by kernel_rfl) Try.func7 (by kernel_rfl)
    (of_decide_eq_true (by kernel_rfl)) (by unfold Func.isWrapper; first | (rw [if_pos (by decide +kernel)]; kernel_rfl) | (rw [if_neg (by decide +kernel)]; exact ⟨rfl, rfl⟩))
    (fun os started H enc _ => lifted os started H enc)
end Go.Proofs.Ytibhialnaibkjaa.pciPlays
namespace Go.Proofs.Ytibhialnaibkjaa
theorem pciPlays_holds : Rows.PciPlaysSaid := pciPlays.over
end Go.Proofs.Ytibhialnaibkjaa
