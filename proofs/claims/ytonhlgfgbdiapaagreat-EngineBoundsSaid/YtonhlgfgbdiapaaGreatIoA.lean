import Derived.Test.YtonhlgfgbdiapaaGreatIo5
import Derived.Test.YtonhlgfgbdiapaaGreatIoR
/- The IOMMU: Overflow, Clear, Drop; an access of a device without a table. -/
namespace Go.Proofs.YtonhlgfgbdiapaaGreat
set_option linter.unusedVariables false
set_option linter.unusedSimpArgs false
open Go.RowKit
set_option maxRecDepth 100000

theorem UsAt.wCl {own : Nat → Nat} {c p rp tp : Nat} {w : World} {s : Us} (h : UsAt own c w p rp tp s) : UsAt own c (w.setCell ⟨p, 526, none⟩ (.bool false)) p rp tp { s with ov := false } ∧ Step (· = c) own w own (w.setCell ⟨p, 526, none⟩ (.bool false)) :=
  h.tail 526 (by decide) rfl rfl rfl rfl (fun _ => rfl) (fun _ => rfl) (fun _ => rfl) (fun _ => rfl) (fun h => absurd rfl h)
section
variable {own : Nat → Nat} {c cm p rp tp n : Nat} {w : World} {s : Us} {m : Nat → Int}
theorem io_Clear (h : UsAt own c w p rp tp s) : Calls Tryz.prog 87 #[.pointer (some ⟨p, 0, none⟩)] w fun e w' => e = .returned (.tuple #[]) ∧ Step (· = c) own w own w' ∧ UsAt own c w' p rp tp { s with ov := false } := by
  obtain ⟨c0, c1, c2, c3, c4, c5, c6⟩ := h.rest
  have z6 := h.froz 526 (by omega)
  have hlt := h.lt
  have HH := Lib.hid h.wCl
  clear h
  go_enter Tryz.func87, Tryz.ntmps87
  go_wp2
  go_end0
  exact ⟨rfl, HH.out.2, HH.out.1⟩
theorem io_Drop (h : UsAt own c w p rp tp s) (d : Nat) (hd : d < 8) : Calls Tryz.prog 82 #[.pointer (some ⟨p, 0, none⟩), .int .i64 (d : Int)] w fun e w' => e = .returned (.int .i64 0) ∧ Step (· = c) own w own w' ∧ UsAt own c w' p rp tp (usRt s d 0) := by
  have HT := Lib.hid (io_there d w)
  have hde : decide (0 ≤ (d : Int) ∧ (d : Int) < 8) = true := by simp; omega
  have hz := h.froz (2 + d * 65) (by omega)
  have hc := h.root d hd
  have hlt := h.lt
  have HH := Lib.hid (h.wRt d 0 hd)
  clear h
  go_enter Tryz.func82, Tryz.ntmps82
  go_wp2_with fail
  ((with_reducible refine HT.out.mono ?_); rintro e wz ⟨rfl, rfl⟩)
  rw [hde]
  clear HT
  go_wp2
  go_ret
  exact ⟨rfl, HH.out.2, HH.out.1⟩
theorem io_Drop_bad (d : Int) (hd : ¬ (0 ≤ d ∧ d < 8)) (w : World) : Calls Tryz.prog 82 #[.pointer (some ⟨p, 0, none⟩), .int .i64 d] w fun e w' => e = .returned (.int .i64 1) ∧ w = w' := by
  have HT := Lib.hid (io_there d w)
  have hde : decide (0 ≤ d ∧ d < 8) = false := by simpa using hd
  clear hd
  go_enter Tryz.func82, Tryz.ntmps82
  go_wp2_with fail
  ((with_reducible refine HT.out.mono ?_); rintro e wz ⟨rfl, rfl⟩)
  rw [hde]
  go_wp2
  go_ret
  exact ⟨rfl, rfl⟩
end
end Go.Proofs.YtonhlgfgbdiapaaGreat
