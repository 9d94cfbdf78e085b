import Derived.Test.YtpknabblllighaaSwP
import Derived.Test.YtpknabblllighaaRow
import Derived.Test.YtpknabblllighaaMake
import Derived.DeepKeys4
import Derived.Deep.MidRow
import Derived.Test.YtpknabblllighaaChecked
import Derived.Laws.Cover3
/- A switch: its keys. -/
namespace Go.Proofs.Ytpknabblllighaa
set_option linter.unusedVariables false
set_option linter.unusedSimpArgs false
open Go.RowKit Go.Maps
set_option maxRecDepth 100000
theorem laidC : laidOutB Try.prog = true := by kernel_rfl
theorem rowC : (53 : TypeId) < Try.prog.types.size := of_decide_eq_true (by kernel_rfl)
theorem keyC : Keyed Try.prog 53 := Keyed.of_law (deep_law_laid laidC (m := 2) (by omega) rowC (by kernel_rfl) (by kernel_rfl))
theorem wf8 (b : Int) (h : 0 ≤ b ∧ b < 256) : (Lit.int .u8 b).wf = true := by simp [Lit.wf, IntKind.min, IntKind.max, IntKind.signed, IntKind.bits]; omega
theorem keyC_mk (k : List Int) (hk : keyOk k) : ∃ l, keyOf Try.prog 53 (encC k) = some l := by
  obtain ⟨hl, hb⟩ := hk
  match k, hl with
  | [a0, a1, a2, a3, a4, a5], _ =>
    have h0 := hb a0 (by simp)
    have h1 := hb a1 (by simp)
    have h2 := hb a2 (by simp)
    have h3 := hb a3 (by simp)
    have h4 := hb a4 (by simp)
    have h5 := hb a5 (by simp)
    obtain ⟨m, hm⟩ : ∃ m, Try.prog.types.size = m + 1 := ⟨Try.prog.types.size - 1, by have h : 53 < Try.prog.types.size := rowC; omega⟩
    have hkt : Try.prog.keyType 53 = true := by kernel_rfl
    have hc : Try.prog.cellsOf 53 = 6 := by kernel_rfl
    have hc1 : Try.prog.cellsOf 5 = 1 := by kernel_rfl
    have hr : List.range 6 = [0, 1, 2, 3, 4, 5] := by decide
    refine ⟨.string (keyBytes [.int .u8 a0, .int .u8 a1, .int .u8 a2, .int .u8 a3, .int .u8 a4, .int .u8 a5]), ?_⟩
    unfold keyOf encC
    rw [Try.underlying53, hm]
    simp only [hkt, Value.formed, Try.underlying53, hc]
    simp [Program.keyLits, Try.underlying53, Value.cells, hc, hc1, hr, Try.underlying5, wf8 _ h0, wf8 _ h1, wf8 _ h2, wf8 _ h3, wf8 _ h4, wf8 _ h5]
end Go.Proofs.Ytpknabblllighaa
