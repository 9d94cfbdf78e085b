import Derived.Test.YtonhlgfgbdiapaaGreatIoA
/- The IOMMU: an access of a device without a table. -/
namespace Go.Proofs.YtonhlgfgbdiapaaGreat
set_option linter.unusedVariables false
set_option linter.unusedSimpArgs false
open Go.RowKit
set_option maxRecDepth 100000

section
variable {own : Nat → Nat} {c cm p rp tp n : Nat} {w : World} {s : Us} {m : Nat → Int}
theorem kindN_bad {sz : Int} (h : okS sz = false) (a : Nat) : kindN sz a = 4 := by unfold kindN; rw [h]; rfl
theorem kindN_mis {sz : Int} {a : Nat} (h : ¬ a % sz.toNat = 0) : kindN sz a = 4 := by unfold kindN; rw [if_neg (by simp; intro _; exact h)]
theorem kindN_ok {sz : Int} {a : Nat} (h : okS sz = true) (h2 : a % sz.toNat = 0) : kindN sz a = 1 := by unfold kindN; rw [if_pos (by simp [h, h2])]
theorem io_translate_none (hU : UsAt own c w p rp tp s) (d a : Nat) (hd : d < 8) (hr : s.rt d = 0) (ha : a < 18446744073709551616) (sz : Int) (hs0 : -9223372036854775808 ≤ sz) (hs1 : sz ≤ 9223372036854775807) (wr : Bool) :
    Calls Tryz.prog 35 #[.pointer (some ⟨p, 0, none⟩), .int .i64 (d : Int), .int .u64 (a : Int), .int .i64 sz, .bool wr] w fun e w' => e = .returned (.tuple #[.int .u64 0, .int .i64 (kindN sz a : Int)]) ∧ w = w' := by
  have hR := io_Root hU (d : Int)
  rw [show rootP s (d : Int) = 0 from by unfold rootP; rw [if_pos (by omega)]; simpa using hr, show ((0 : Nat) : Int) = 0 from rfl] at hR
  have HR := Lib.hid hR
  clear hR hU hr
  by_cases hok : okS sz = true
  · rcases okS_iff.1 hok with rfl | rfl | rfl | rfl
    · rw [kindN_ok hok (by simp; omega), show ((1 : Nat) : Int) = 1 from rfl]
      have hz : (a : Int) % 1 = 0 := by omega
      clear hok hs0 hs1
      go_enter Tryz.func35, Tryz.ntmps35
      go_wp2_with fail
      ((with_reducible refine HR.out.mono ?_); rintro e w1 ⟨rfl, rfl⟩)
      go_wp2
      go_ret2
      exact ⟨rfl, rfl⟩
    · by_cases hq : a % 2 = 0
      · rw [kindN_ok hok hq, show ((1 : Nat) : Int) = 1 from rfl]
        have hz : (a : Int) % 2 = 0 := by omega
        clear hok hs0 hs1
        go_enter Tryz.func35, Tryz.ntmps35
        go_wp2_with fail
        ((with_reducible refine HR.out.mono ?_); rintro e w1 ⟨rfl, rfl⟩)
        go_wp2
        go_ret2
        exact ⟨rfl, rfl⟩
      · rw [kindN_mis hq, show ((4 : Nat) : Int) = 4 from rfl]
        have hz : (((a : Int) % 2) == 0) = false := by simp; omega
        clear hok hs0 hs1
        go_enter Tryz.func35, Tryz.ntmps35
        go_wp2
        go_ret2
        exact ⟨rfl, rfl⟩
    · by_cases hq : a % 4 = 0
      · rw [kindN_ok hok hq, show ((1 : Nat) : Int) = 1 from rfl]
        have hz : (a : Int) % 4 = 0 := by omega
        clear hok hs0 hs1
        go_enter Tryz.func35, Tryz.ntmps35
        go_wp2_with fail
        ((with_reducible refine HR.out.mono ?_); rintro e w1 ⟨rfl, rfl⟩)
        go_wp2
        go_ret2
        exact ⟨rfl, rfl⟩
      · rw [kindN_mis hq, show ((4 : Nat) : Int) = 4 from rfl]
        have hz : (((a : Int) % 4) == 0) = false := by simp; omega
        clear hok hs0 hs1
        go_enter Tryz.func35, Tryz.ntmps35
        go_wp2
        go_ret2
        exact ⟨rfl, rfl⟩
    · by_cases hq : a % 8 = 0
      · rw [kindN_ok hok hq, show ((1 : Nat) : Int) = 1 from rfl]
        have hz : (a : Int) % 8 = 0 := by omega
        clear hok hs0 hs1
        go_enter Tryz.func35, Tryz.ntmps35
        go_wp2_with fail
        ((with_reducible refine HR.out.mono ?_); rintro e w1 ⟨rfl, rfl⟩)
        go_wp2
        go_ret2
        exact ⟨rfl, rfl⟩
      · rw [kindN_mis hq, show ((4 : Nat) : Int) = 4 from rfl]
        have hz : (((a : Int) % 8) == 0) = false := by simp; omega
        clear hok hs0 hs1
        go_enter Tryz.func35, Tryz.ntmps35
        go_wp2
        go_ret2
        exact ⟨rfl, rfl⟩
  · have hok' : okS sz = false := by simpa using hok
    rw [kindN_bad hok', show ((4 : Nat) : Int) = 4 from rfl]
    have g1 : (sz != 1) = true := by unfold okS at hok'; simp at hok' ⊢; omega
    have g2 : (sz != 2) = true := by unfold okS at hok'; simp at hok' ⊢; omega
    have g3 : (sz != 4) = true := by unfold okS at hok'; simp at hok' ⊢; omega
    have g4 : (sz != 8) = true := by unfold okS at hok'; simp at hok' ⊢; omega
    have e1 : (sz == 1) = false := by simpa using g1
    have e2 : (sz == 2) = false := by simpa using g2
    have e3 : (sz == 4) = false := by simpa using g3
    have e4 : (sz == 8) = false := by simpa using g4
    clear hok hok'
    go_enter Tryz.func35, Tryz.ntmps35
    go_wp2
    go_ret2
    exact ⟨rfl, rfl⟩
theorem kindN_cases (sz : Int) (a : Nat) : kindN sz a = 1 ∨ kindN sz a = 4 := by unfold kindN; split <;> simp
theorem io_Access_none (hU : UsAt own c w p rp tp s) (hM : MemAt ramK own cm w rp 0 n m) (hcm : c ≠ cm) (hok : UsOk n s) (d a : Nat) (hd : d < 8) (hr : s.rt d = 0) (ha : a < 18446744073709551616) (sz : Int) (hs0 : -9223372036854775808 ≤ sz) (hs1 : sz ≤ 9223372036854775807) (wr : Bool) :
    Calls Tryz.prog 14 #[.pointer (some ⟨p, 0, none⟩), .int .i64 (d : Int), .int .u64 (a : Int), .int .i64 sz, .bool wr] w fun e w' => e = .returned (.tuple #[.int .u64 0, .bool false]) ∧
      ∃ own', Step (fun x => x = c ∨ x = cm) own w own' w' ∧ UsAt own' c w' p rp tp (recS s) ∧ MemAt ramK own' cm w' rp 0 n (recM s m (d : Int) (kindN sz a : Int) (a : Int)) := by
  have HT := Lib.hid (io_translate_none hU d a hd hr ha sz hs0 hs1 wr)
  have HB := Lib.hid (io_blocked hU hM hcm hok d (kindN sz a) a hd (by rcases kindN_cases sz a with h | h <;> omega) ha)
  have hk : ((kindN sz a : Int) == 0) = false := by rcases kindN_cases sz a with h | h <;> rw [h] <;> rfl
  generalize kindN sz a = k at *
  clear hU hM hok hr
  go_enter Tryz.func14, Tryz.ntmps14
  go_wp2_with fail
  ((with_reducible refine HT.out.mono ?_); rintro e w1 ⟨rfl, rfl⟩)
  clear HT
  go_wp2_with fail
  ((with_reducible refine HB.out.mono ?_); rintro e w2 ⟨rfl, h2⟩)
  have H2 := Lib.hid h2
  clear HB h2
  go_wp2
  go_ret2
  exact ⟨rfl, H2.out⟩
end
end Go.Proofs.YtonhlgfgbdiapaaGreat
