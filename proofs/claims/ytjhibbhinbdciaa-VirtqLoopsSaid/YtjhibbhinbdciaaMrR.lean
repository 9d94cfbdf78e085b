import Derived.Test.YtjhibbhinbdciaaMref3
/- The document's memory: Read. -/
namespace Go.Proofs.Ytjhibbhinbdciaa
set_option linter.unusedVariables false
set_option linter.unusedSimpArgs false
open Go.RowKit
set_option maxRecDepth 100000
theorem mref_Read {own : Nat → Nat} {c p base n : Nat} {m : Nat → Int} {w : World} (h : MemAt refK own c w p base n m) (addr size : Int) (ha0 : 0 ≤ addr) (ha1 : addr < 18446744073709551616) (hs0 : -9223372036854775808 ≤ size) (hs1 : size ≤ 9223372036854775807) :
    Calls Try.prog 51 #[.pointer (some ⟨p, 0, none⟩), .int .u64 addr, .int .i64 size] w fun e w' =>
      e = .returned (.tuple #[.int .u64 (rdR base n m addr size).1, .bool (rdR base n m addr size).2]) ∧ w = w' := by
  have HW := Lib.hid (mref_right size w)
  have HH := Lib.hid (mref_Has h addr size ha0 ha1 hs0 hs1)
  by_cases h1 : okS size = true
  · by_cases h2 : hasR base n addr size = true
    · have hres : rdR base n m addr size = (num m (addr - base).toNat size.toNat, true) := by simp [rdR, h1, h2]
      rw [hres]
      obtain ⟨q1, q2, q3, q4⟩ := hasR_iff.1 h2
      obtain ⟨o, ho⟩ := Int.eq_ofNat_of_zero_le (show 0 ≤ addr - base by omega)
      obtain ⟨s, rfl⟩ := Int.eq_ofNat_of_zero_le q1
      obtain rfl : addr = ((base + o : Nat) : Int) := by omega
      have hs8 : s ≤ 8 := by have := okS_iff.1 h1; omega
      have hroom : o + s ≤ n * 4096 := by omega
      simp only [show ((base + o : Nat) : Int) - base = (o : Int) from by omega, Int.toNat_natCast]
      have hbd := h.bd
      have hsz := h.sizes
      have HR := Lib.hid h
      have HBD := Lib.hid hbd
      clear h hbd hres q1 q2 q3 q4 ho
      go_enter Try.func51, Try.ntmps51
      go_wp2_with fail
      refine HW.out.mono ?_; rintro e w' ⟨rfl, rfl⟩; rw [h1]
      go_wp2_with fail
      refine HH.out.mono ?_; rintro e w' ⟨rfl, rfl⟩; rw [h2]
      clear HW HH
      go_wp2
      go_loop [8, 9] (fun v i => ∃ (k : Nat), k ≤ s ∧ v = .int .u64 (num m (o + k) (s - k)) ∧ i = .int .i64 ((k : Int) - 1)) (fun _ i => (intOf i + 1).toNat)
      case atStart => exact ⟨s, by omega, by simp [num], rfl⟩
      case round =>
        obtain ⟨k, hk, rfl, rfl⟩ := hrel
        rcases k with _ | k
        · have h : ¬ (0 : Int) ≤ ((0 : Nat) : Int) - 1 := by omega
          go_wp2
          go_ret2
          exact ⟨by simp, rfl⟩
        · obtain ⟨hy0, hy1⟩ := HBD.out (o + k)
          have HX := Lib.hid (show num m (o + k) (s - k) = m (o + k) + 256 * num m (o + (k + 1)) (s - (k + 1)) from by
            rw [show s - k = (s - (k + 1)) + 1 from by omega]; rfl)
          have hx0 := num_nonneg HBD.out (s - (k + 1)) (o + (k + 1))
          have hx1 := num_lt7 HBD.out (o + (k + 1)) (n := s - (k + 1)) (by omega)
          generalize num m (o + (k + 1)) (s - (k + 1)) = x at *
          rw [show (((k + 1 : Nat) : Int) - 1) = (k : Int) from by omega]
          go_wp2_with fail
          refine (mref_get' HR.out (o + k) (by omega) _ (by go_num)).mono ?_; rintro e w' ⟨rfl, rfl⟩
          go_wp2
          go_round
          case rel =>
            refine ⟨k, by omega, ?_, rfl⟩
            rw [HX.out]
            congr 1
            omega
          case measure => simp [intOf]
    · have h2 : hasR base n addr size = false := by simpa using h2
      have hres : rdR base n m addr size = (0, false) := by simp [rdR, h2]
      rw [hres]
      clear h
      go_enter Try.func51, Try.ntmps51
      go_wp2_with fail
      refine HW.out.mono ?_; rintro e w' ⟨rfl, rfl⟩; rw [h1]
      go_wp2_with fail
      refine HH.out.mono ?_; rintro e w' ⟨rfl, rfl⟩; rw [h2]
      go_wp2
      go_ret2
      exact ⟨rfl, rfl⟩
  · have h1 : okS size = false := by simpa using h1
    have hres : rdR base n m addr size = (0, false) := by simp [rdR, h1]
    rw [hres]
    clear h
    go_enter Try.func51, Try.ntmps51
    go_wp2_with fail
    refine HW.out.mono ?_; rintro e w' ⟨rfl, rfl⟩; rw [h1]
    go_wp2
    go_ret2
    exact ⟨rfl, rfl⟩
end Go.Proofs.Ytjhibbhinbdciaa
