import Derived.Test.YtjhibbhinbdciaaMref2
/- The document's memory: Has, Read, Write, Clear. -/
namespace Go.Proofs.Ytjhibbhinbdciaa
set_option linter.unusedVariables false
open Go.RowKit
set_option maxRecDepth 100000

section
variable {own : Nat → Nat} {c p base n : Nat} {m : Nat → Int} {w : World}
theorem mref_get' (h : MemAt refK own c w p base n m) (off : Nat) (ho : off < n * 4096) (a : Int) (ha : a = ((base + off : Nat) : Int)) :
    Calls Try.prog 58 #[.pointer (some ⟨p, 0, none⟩), .int .u64 a] w fun e w' => e = .returned (.int .u8 (m off)) ∧ w = w' := by
  subst ha
  obtain ⟨q, fs, h, rfl⟩ := h
  exact mref_get h off ho
theorem mref_put' (h : MemAt refK own c w p base n m) (off : Nat) (ho : off < n * 4096) (v : Int) (hv : 0 ≤ v ∧ v < 256) (a v' : Int) (ha : a = ((base + off : Nat) : Int)) (hv' : v' = v) :
    Calls Try.prog 55 #[.pointer (some ⟨p, 0, none⟩), .int .u64 a, .int .u8 v'] w fun e w' => e = .returned (.tuple #[]) ∧
      ∃ own', Step (· = c) own w own' w' ∧ MemAt refK own' c w' p base n (setB m off v) := by
  subst ha; subst hv'
  obtain ⟨q, fs, h, rfl⟩ := h
  refine (mref_put_in h off ho _ hv).mono ?_
  rintro e w' ⟨rfl, own', fs', hS, hR, hl⟩
  exact ⟨rfl, own', hS, q, fs', hR, hl⟩
theorem mref_Has (h : MemAt refK own c w p base n m) (addr size : Int) (ha0 : 0 ≤ addr) (ha1 : addr < 18446744073709551616) (hs0 : -9223372036854775808 ≤ size) (hs1 : size ≤ 9223372036854775807) :
    Calls Try.prog 27 #[.pointer (some ⟨p, 0, none⟩), .int .u64 addr, .int .i64 size] w fun e w' => e = .returned (.bool (hasR base n addr size)) ∧ w = w' := by
  obtain ⟨hbd, hn1, hn2⟩ := h.sizes
  obtain ⟨q, fs, h, rfl⟩ := h
  have h0 : w.cell? ⟨p, 0, none⟩ = some (.int .u64 (base : Int)) := h.bp.cell 0
  have h1 : w.cell? ⟨p, 1, none⟩ = some (.int .i64 (fs.length : Int)) := h.bp.cell 1
  clear h
  generalize fs.length = n at *
  by_cases hz : size < 0
  · have hr : hasR base n addr size = false := by simp [hasR]; omega
    rw [hr]
    go_enter Try.func27, Try.ntmps27
    go_wp2
    go_ret
    exact ⟨rfl, rfl⟩
  have hz' : ¬ size < 0 := hz
  by_cases hl : addr < base
  · have hr : hasR base n addr size = false := by simp [hasR]; omega
    rw [hr]
    go_enter Try.func27, Try.ntmps27
    go_wp2
    go_ret
    exact ⟨rfl, rfl⟩
  have hw : IntKind.u64.wrap (addr - base) = addr - base := IntWalk.u64_in _ (by omega)
  have hws : IntKind.u64.wrap size = size := IntWalk.u64_in _ (by omega)
  have hwm : IntKind.u64.wrap ((n : Int) * 4096) = (n : Int) * 4096 := IntWalk.u64_in _ (by omega)
  by_cases hg : addr - base ≤ (n : Int) * 4096
  · have hr : hasR base n addr size = decide (size ≤ (n : Int) * 4096 - (addr - base)) := decide_eq_decide.2 ⟨fun h => by have := h.2.2.2; omega, fun h => ⟨by omega, by omega, by omega, by omega⟩⟩
    rw [hr]
    have hw3 : IntKind.u64.wrap ((n : Int) * 4096 - (addr - base)) = (n : Int) * 4096 - (addr - base) := IntWalk.u64_in _ (by omega)
    go_enter Try.func27, Try.ntmps27
    go_wp2
    go_ret
    exact ⟨rfl, rfl⟩
  · have hr : hasR base n addr size = false := by simp [hasR]; omega
    rw [hr]
    go_enter Try.func27, Try.ntmps27
    go_wp2
    go_ret
    exact ⟨rfl, rfl⟩
theorem mref_Write (h : MemAt refK own c w p base n m) (addr size v : Int) (ha0 : 0 ≤ addr) (ha1 : addr < 18446744073709551616) (hs0 : -9223372036854775808 ≤ size) (hs1 : size ≤ 9223372036854775807) (hv0 : 0 ≤ v) (hv1 : v < 18446744073709551616) :
    Calls Try.prog 36 #[.pointer (some ⟨p, 0, none⟩), .int .u64 addr, .int .i64 size, .int .u64 v] w fun e w' =>
      e = .returned (.bool (okS size && hasR base n addr size)) ∧ ∃ own', Step (· = c) own w own' w' ∧ MemAt refK own' c w' p base n (wrR base n m addr size v) := by
  have HW := Lib.hid (mref_right size w)
  have HH := Lib.hid (mref_Has h addr size ha0 ha1 hs0 hs1)
  have hsz := h.sizes
  have HR := Lib.hid h
  clear h
  by_cases h1 : okS size = true
  · by_cases h2 : hasR base n addr size = true
    · have hres : wrR base n m addr size v = put m (addr - base).toNat size.toNat v := by simp [wrR, h1, h2]
      rw [hres, h1, h2]
      obtain ⟨q1, q2, q3, q4⟩ := hasR_iff.1 h2
      obtain ⟨o, ho⟩ := Int.eq_ofNat_of_zero_le (show 0 ≤ addr - base by omega)
      obtain ⟨s, rfl⟩ := Int.eq_ofNat_of_zero_le q1
      obtain rfl : addr = ((base + o : Nat) : Int) := by omega
      have hs8 : s ≤ 8 := by have := okS_iff.1 h1; omega
      have hroom : o + s ≤ n * 4096 := by omega
      simp only [show ((base + o : Nat) : Int) - base = (o : Int) from by omega, Int.toNat_natCast]
      clear hres q1 q2 q3 q4 ho
      go_enter Try.func36, Try.ntmps36
      go_wp2_with fail
      refine HW.out.mono ?_; rintro e w' ⟨rfl, rfl⟩; rw [h1]
      go_wp2_with fail
      refine HH.out.mono ?_; rintro e w' ⟨rfl, rfl⟩; rw [h2]
      clear HW HH
      go_wp2
      go_loopw [3, 9] (fun vv i wr => ∃ (k : Nat) (z : Int), k ≤ s ∧ i = .int .i64 (k : Int) ∧ vv = .int .u64 z ∧ 0 ≤ z ∧ z < 18446744073709551616 ∧ Hid (z = v / 256 ^ k ∧ ∃ own', Step (· = c) own w own' wr ∧ MemAt refK own' c wr p base n (put m o k v))) (fun _ i _ => s - (intOf i).toNat)
      case atStart => exact ⟨0, v, by omega, rfl, rfl, hv0, hv1, by simp, own, Step.refl _ _ _, by rw [put_zero]; exact HR.out⟩
      case round =>
        obtain ⟨k, z, hk, rfl, rfl, hz0, hz1, HL⟩ := hrel
        by_cases hlt : k < s
        · have hb := byteOf_bd v k
          go_wp2_with fail
          obtain ⟨hzz, own', hS, hR⟩ := HL.out
          refine (mref_put' hR (o + k) (by omega) (byteOf v k) hb _ _ (by go_num) ?_).mono ?_
          · unfold byteOf; rw [← hzz]
          · rintro e w' ⟨rfl, own2, hS2, hR2⟩
            have HN := Lib.hid (And.intro hzz (And.intro (hS.trans hS2) hR2))
            clear hS hR hS2 hR2 hzz
            go_wp2
            exact ⟨⟨k + 1, z / 256, by omega, by go_num, by go_num, by omega, by omega, by rw [HN.out.1, Int.pow_succ, Int.ediv_ediv_of_nonneg (by have := Int.pow_pos (n := 256) (m := k) (by decide); omega)], own2, HN.out.2.1, by rw [← setB_put]; exact HN.out.2.2⟩, by simp [intOf]; omega⟩
        · obtain rfl : k = s := by omega
          go_wp2
          go_ret
          exact ⟨rfl, HL.out.2⟩
    · have h2 : hasR base n addr size = false := by simpa using h2
      have hres : wrR base n m addr size v = m := by simp [wrR, h2]
      rw [hres, h2]
      go_enter Try.func36, Try.ntmps36
      go_wp2_with fail
      refine HW.out.mono ?_; rintro e w' ⟨rfl, rfl⟩; rw [h1]
      go_wp2_with fail
      refine HH.out.mono ?_; rintro e w' ⟨rfl, rfl⟩; rw [h2]
      go_wp2
      go_ret
      exact ⟨by simp, own, Step.refl _ _ _, HR.out⟩
  · have h1 : okS size = false := by simpa using h1
    have hres : wrR base n m addr size v = m := by simp [wrR, h1]
    rw [hres, h1]
    go_enter Try.func36, Try.ntmps36
    go_wp2_with fail
    refine HW.out.mono ?_; rintro e w' ⟨rfl, rfl⟩; rw [h1]
    go_wp2
    go_ret
    exact ⟨by simp, own, Step.refl _ _ _, HR.out⟩
end
end Go.Proofs.Ytjhibbhinbdciaa
