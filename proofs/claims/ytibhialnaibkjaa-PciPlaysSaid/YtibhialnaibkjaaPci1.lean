import Derived.Test.YtibhialnaibkjaaProg
import Derived.Test.YtibhialnaibkjaaPciPure
namespace Go.Proofs.Ytibhialnaibkjaa
set_option linter.unusedVariables false
open Go.RowKit
set_option maxRecDepth 100000

theorem pci_number (p o : Nat) (f : Nat → Int) (off size : Int) (h1 : 0 ≤ size) (h2 : size ≤ 4) (h0 : 0 ≤ off) (h3 : off + size ≤ 256) (w : World)
   (hf : ∀ i, 0 ≤ f i ∧ f i < 256) (hb : ∀ i : Nat, i < 256 → w.cell? ⟨p, o + 1 + i, none⟩ = some (.int .u8 (f i))) :
    Calls Try.prog 27 #[.pointer (some ⟨p, o, none⟩), .int .i64 off, .int .i64 size] w fun e w' => e = .returned (.int .u64 (num f off.toNat size.toNat)) ∧ w = w' := by
  obtain ⟨j, rfl⟩ := Int.eq_ofNat_of_zero_le h0
  obtain ⟨s, rfl⟩ := Int.eq_ofNat_of_zero_le h1
  simp only [Int.toNat_natCast]
  go_enter Try.func27, Try.ntmps27
  go_wp2
  go_loop [7, 8] (fun v i => ∃ (k : Nat), k ≤ s ∧ v = .int .u64 (num f (j + k) (s - k)) ∧ i = .int .i64 ((k : Int) - 1)) (fun _ i => (intOf i + 1).toNat)
  case atStart => exact ⟨s, by omega, by simp [num], rfl⟩
  case round =>
    obtain ⟨k, hk, rfl, rfl⟩ := hrel
    rcases k with _ | k
    · have h : ¬ (0 : Int) ≤ ((0 : Nat) : Int) - 1 := by omega
      go_wp2
      go_ret
      simp
    · have hy := hb (j + k) (by omega)
      obtain ⟨hy0, hy1⟩ := hf (j + k)
      have HX := Lib.hid (show num f (j + k) (s - k) = f (j + k) + 256 * num f (j + (k + 1)) (s - (k + 1)) from by
        rw [show s - k = (s - (k + 1)) + 1 from by omega]; rfl)
      have hx0 := num_nonneg hf (s - (k + 1)) (j + (k + 1))
      have hx1 := num_lt7 hf (j + (k + 1)) (n := s - (k + 1)) (by omega)
      clear hb hf
      generalize num f (j + (k + 1)) (s - (k + 1)) = x at *
      rw [show (((k + 1 : Nat) : Int) - 1) = (k : Int) from by omega]
      go_wp2
      go_round
      case rel =>
        refine ⟨k, by omega, ?_, rfl⟩
        rw [HX.out, or_shl8 hx0 hx1 hy0 hy1]
      case measure => simp [intOf]

theorem pci_mask (o : Int) (w : World) : Calls Try.prog 26 #[.int .i64 o] w fun e w' => e = .returned (.int .u8 (maskZ o)) ∧ w = w' := by
  go_enter Try.func26, Try.ntmps26
  go_wp2
  all_goals go_ret
  all_goals (refine ⟨?_, rfl⟩; simp_all [maskZ])
  go_ways

theorem pci_there (p : Nat) (slot : Int) (len cap : Nat) (ad : Option Addr) (w : World) (hb : w.cell? ⟨p, 0, none⟩ = some (.slice ad len cap)) :
    Calls Try.prog 25 #[.pointer (some ⟨p, 0, none⟩), .int .i64 slot] w fun e w' => e = .returned (.bool (decide (0 ≤ slot ∧ slot < len))) ∧ w = w' := by
  go_enter Try.func25, Try.ntmps25
  go_wp2
  all_goals go_ret
  all_goals (refine ⟨?_, rfl⟩; simp_all <;> omega)

theorem pci_fits (off size : Int) (h0 : 0 ≤ off) (h1 : off < 18446744073709551616) (w : World) :
    Calls Try.prog 24 #[.int .u64 off, .int .i64 size] w fun e w' => e = .returned (.bool (fitsZ off size)) ∧ w = w' := by
  go_enter Try.func24, Try.ntmps24
  go_wp2
  all_goals go_ret
  all_goals (refine ⟨?_, rfl⟩; simp_all [fitsZ] <;> omega)
end Go.Proofs.Ytibhialnaibkjaa
