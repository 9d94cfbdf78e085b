import Derived.Test.YtonhlgfgbdiapaaGreatEr1
/- The document's engine: Read, begin, Write, Reset. -/
namespace Go.Proofs.YtonhlgfgbdiapaaGreat
set_option linter.unusedVariables false
set_option linter.unusedSimpArgs false
open Go.RowKit
set_option maxRecDepth 100000
section
variable {own own' : Nat → Nat} {c q : Nat} {dev : Int} {mv uv : Value} {w w' : World} {t t' : Eg}
theorem regE_D (t : Eg) (r : Nat) : regE t (8 * r) = regD t r := by
  unfold regE regD
  by_cases h3 : r = 3
  · subst h3; rfl
  · rw [if_neg (by omega), if_neg h3]
    by_cases h4 : r = 4
    · subst h4; rfl
    · rw [if_neg (by omega), if_neg h4]
theorem eref_Read (h : ErAt own c w q dev mv uv t) (hok : ErOk t) (off : Nat) (hoff : off < 18446744073709551616) (size : Int) (hs0 : -9223372036854775808 ≤ size) (hs1 : size ≤ 9223372036854775807) :
    Calls Tryz.prog 49 #[.pointer (some ⟨q, 0, none⟩), .int .u64 (off : Int), .int .i64 size] w fun x w' => x = .returned (.tuple #[.int .u64 (readE t off size : Int), .bool (fitsE off size)]) ∧ w = w' := by
  have hP := eref_place off hoff size hs0 hs1 w
  cases hf : fitsE off size with
  | false =>
    rw [hf, if_neg (by decide), if_neg (by decide)] at hP
    rw [show readE t off size = 0 from by unfold readE; rw [hf]; rfl]
    have HP := Lib.hid hP
    clear hP h hok
    go_enter Tryz.func49, Tryz.ntmps49
    go_wp2_with fail
    ((with_reducible refine HP.out.mono ?_); rintro x wz ⟨rfl, rfl⟩)
    clear HP
    go_wp2
    go_ret2
    exact ⟨rfl, rfl⟩
  | true =>
    rw [hf, if_pos rfl, if_pos rfl] at hP
    obtain ⟨hz, hm, ho⟩ := fitsE_iff.1 hf
    obtain ⟨r, hr⟩ : ∃ r, off / 8 = r := ⟨_, rfl⟩
    obtain ⟨i, hi⟩ : ∃ i, off % 8 = i := ⟨_, rfl⟩
    have hr7 : r < 7 := by omega
    have hrd : readE t off size = if size = 8 then regD t r else regD t r / 2 ^ (8 * i) % 4294967296 := by
      unfold readE
      rw [hf, if_pos rfl, show off / 8 * 8 = 8 * r by omega, hi, regE_D]
    rw [hrd]
    rw [hr, hi] at hP
    have hc := h.reg r hr7
    have hlt := h.cells.2.2.2.2.2.2.2.2.2.2
    have hV : regD t r < 18446744073709551616 := by unfold regD; split; decide; split; have := hok.st; omega; exact hok.rg _
    have h3 : r = 3 → regD t r = 0 := by rintro rfl; rfl
    obtain ⟨V, hVV⟩ : ∃ V, regD t r = V := ⟨_, rfl⟩
    rw [hVV] at hc hV h3 ⊢
    have hil : i < 8 := by omega
    have HP := Lib.hid hP
    have hzi : (size = 8 ∧ i = 0) ∨ (size = 4 ∧ i = 0) ∨ (size = 4 ∧ i = 4) := by
      rcases hz with rfl | rfl <;> omega
    clear hP h hok hVV hrd hf hz hm ho hr hi
    by_cases hr3 : r = 3
    · have e3 : ((r : Int) == 3) = true := by rw [hr3]; rfl
      have hV0 := h3 hr3
      subst hV0
      clear h3 hr3
      rcases hzi with ⟨rfl, rfl⟩ | ⟨rfl, rfl⟩ | ⟨rfl, rfl⟩
      all_goals
        go_enter Tryz.func49, Tryz.ntmps49
        go_wp2_with fail
        ((with_reducible refine HP.out.mono ?_); rintro x wz ⟨rfl, rfl⟩)
        clear HP
        go_wp2
        go_ret2
        exact ⟨rfl, rfl⟩
    · have e3 : ((r : Int) == 3) = false := by simp; omega
      clear h3
      rcases hzi with ⟨rfl, rfl⟩ | ⟨rfl, rfl⟩ | ⟨rfl, rfl⟩
      · rw [if_pos rfl]
        go_enter Tryz.func49, Tryz.ntmps49
        go_wp2_with fail
        ((with_reducible refine HP.out.mono ?_); rintro x wz ⟨rfl, rfl⟩)
        clear HP
        go_wp2
        go_ret2
        exact ⟨rfl, rfl⟩
      · rw [if_neg (by decide), show (2 : Nat) ^ (8 * 0) = 1 from rfl, Nat.div_one, show ((V % 4294967296 : Nat) : Int) = (V : Int) % 4294967296 from by omega]
        go_enter Tryz.func49, Tryz.ntmps49
        go_wp2_with fail
        ((with_reducible refine HP.out.mono ?_); rintro x wz ⟨rfl, rfl⟩)
        clear HP
        go_wp2
        go_ret2
        exact ⟨rfl, rfl⟩
      · rw [if_neg (by decide), show (2 : Nat) ^ (8 * 4) = 4294967296 from rfl, show ((V / 4294967296 % 4294967296 : Nat) : Int) = (V : Int) / 4294967296 % 4294967296 from by omega]
        go_enter Tryz.func49, Tryz.ntmps49
        go_wp2_with fail
        ((with_reducible refine HP.out.mono ?_); rintro x wz ⟨rfl, rfl⟩)
        clear HP
        go_wp2
        go_ret2
        exact ⟨rfl, rfl⟩
theorem eref_begin (h : ErAt own c w q dev mv uv t) :
    Calls Tryz.prog 73 #[.pointer (some ⟨q, 0, none⟩)] w fun x w' => x = .returned (.tuple #[]) ∧ Step (· = c) own w own w' ∧ ErAt own c w' q dev mv uv (beginD t) := by
  obtain ⟨_, _, _, c3, c4, c5, c7, _, _, c10, hlt⟩ := h.cells
  have z7 := h.froz 7
  have z10 := h.froz 10
  have hp3 := h.put (t' := { t with st := 3 }) 7 (.int .u64 3) rfl
  have hp1 := h.put (t' := { t with st := 1 }) 7 (.int .u64 1) rfl
  have hp10 := hp1.2.put (t' := { t with st := 1, cp := 0 }) 10 (.int .u64 0) rfl
  unfold beginD
  cases hb : badE t with
  | true =>
    rw [if_pos rfl]
    have HF := Lib.hid hp3
    have hcs : (t.rg 16 = 0) ∨ (¬ t.rg 16 = 0 ∧ 4096 < t.rg 16) ∨ (¬ t.rg 16 = 0 ∧ ¬ 4096 < t.rg 16 ∧ t.rg 0 % 8 ≠ 0) ∨ (¬ t.rg 16 = 0 ∧ ¬ 4096 < t.rg 16 ∧ ¬ t.rg 0 % 8 ≠ 0 ∧ t.rg 8 % 8 ≠ 0) ∨ (¬ t.rg 16 = 0 ∧ ¬ 4096 < t.rg 16 ∧ ¬ t.rg 0 % 8 ≠ 0 ∧ ¬ t.rg 8 % 8 ≠ 0 ∧ t.rg 16 % 8 ≠ 0) := by
      unfold badE at hb
      simp only [Bool.or_eq_true, decide_eq_true_eq] at hb
      omega
    clear hb h hp3 hp1 hp10
    obtain ⟨r0, hr0⟩ : ∃ r, t.rg 0 = r := ⟨_, rfl⟩
    obtain ⟨r8, hr8⟩ : ∃ r, t.rg 8 = r := ⟨_, rfl⟩
    obtain ⟨n, hn⟩ : ∃ r, t.rg 16 = r := ⟨_, rfl⟩
    rw [hr0, hr8, hn] at hcs
    rw [hr0] at c3
    rw [hr8] at c4
    rw [hn] at c5
    clear hr0 hr8 hn
    have d1 : ((n : Int) == 0) = decide (n = 0) := by by_cases h : n = 0 <;> simp [h]
    have d2 : decide ((4096 : Int) < (n : Int)) = decide (4096 < n) := by by_cases h : 4096 < n <;> simp [h] <;> omega
    have d3 : ((r0 : Int) % 8 != 0) = decide (r0 % 8 ≠ 0) := by by_cases h : r0 % 8 = 0 <;> simp [h] <;> omega
    have d4 : ((r8 : Int) % 8 != 0) = decide (r8 % 8 ≠ 0) := by by_cases h : r8 % 8 = 0 <;> simp [h] <;> omega
    have d5 : ((n : Int) % 8 != 0) = decide (n % 8 ≠ 0) := by by_cases h : n % 8 = 0 <;> simp [h] <;> omega
    rcases hcs with h1 | ⟨h1, h2⟩ | ⟨h1, h2, h3⟩ | ⟨h1, h2, h3, h4⟩ | ⟨h1, h2, h3, h4, h5⟩
    · rw [decide_eq_true h1] at d1
      go_enter Tryz.func73, Tryz.ntmps73
      go_wp2
      refine bodyPost_ret (results_none rfl _ _ _) rfl ?_
      exact ⟨rfl, HF.out⟩
    · rw [decide_eq_false h1] at d1
      rw [decide_eq_true h2] at d2
      go_enter Tryz.func73, Tryz.ntmps73
      go_wp2
      refine bodyPost_ret (results_none rfl _ _ _) rfl ?_
      exact ⟨rfl, HF.out⟩
    · rw [decide_eq_false h1] at d1
      rw [decide_eq_false h2] at d2
      rw [decide_eq_true h3] at d3
      go_enter Tryz.func73, Tryz.ntmps73
      go_wp2
      refine bodyPost_ret (results_none rfl _ _ _) rfl ?_
      exact ⟨rfl, HF.out⟩
    · rw [decide_eq_false h1] at d1
      rw [decide_eq_false h2] at d2
      rw [decide_eq_false h3] at d3
      rw [decide_eq_true h4] at d4
      go_enter Tryz.func73, Tryz.ntmps73
      go_wp2
      refine bodyPost_ret (results_none rfl _ _ _) rfl ?_
      exact ⟨rfl, HF.out⟩
    · rw [decide_eq_false h1] at d1
      rw [decide_eq_false h2] at d2
      rw [decide_eq_false h3] at d3
      rw [decide_eq_false h4] at d4
      rw [decide_eq_true h5] at d5
      go_enter Tryz.func73, Tryz.ntmps73
      go_wp2
      refine bodyPost_ret (results_none rfl _ _ _) rfl ?_
      exact ⟨rfl, HF.out⟩
  | false =>
    rw [if_neg (by decide)]
    have HF := Lib.hid (And.intro (hp1.1.trans hp10.1) hp10.2)
    have n0 : ((t.rg 16 : Int) == 0) = false := by unfold badE at hb; simp at hb ⊢; omega
    have n1 : decide ((4096 : Int) < (t.rg 16 : Int)) = false := by unfold badE at hb; simp at hb ⊢; omega
    have n2 : ((t.rg 0 : Int) % 8 != 0) = false := by unfold badE at hb; simp at hb ⊢; omega
    have n3 : ((t.rg 8 : Int) % 8 != 0) = false := by unfold badE at hb; simp at hb ⊢; omega
    have n4 : ((t.rg 16 : Int) % 8 != 0) = false := by unfold badE at hb; simp at hb ⊢; omega
    have m1 : ¬ 4096 < t.rg 16 := by unfold badE at hb; simp at hb ⊢; omega
    clear hb h hp3 hp1 hp10
    go_enter Tryz.func73, Tryz.ntmps73
    go_wp2
    go_end0
    exact ⟨rfl, HF.out⟩
set_option maxHeartbeats 1000000 in
theorem eref_Reset (h : ErAt own c w q dev mv uv t) :
    Calls Tryz.prog 52 #[.pointer (some ⟨q, 0, none⟩)] w fun x w' => x = .returned (.tuple #[]) ∧ Step (· = c) own w own w' ∧ ErAt own c w' q dev mv uv eg0 := by
  obtain ⟨c0, c1, c2, c3, c4, c5, c7, c8, c9, c10, hlt⟩ := h.cells
  have c6 : w.cell? ⟨q, 6, none⟩ = some (.int .u64 0) := h.1.cell 6
  have z := h.froz
  obtain ⟨hS0, hE0⟩ := h.put (t' := putE t 0 0) 3 (.int .u64 0) rfl
  obtain ⟨hS1, hE1⟩ := hE0.put (t' := putE (putE t 0 0) 8 0) 4 (.int .u64 0) rfl
  obtain ⟨hS2, hE2⟩ := hE1.put (t' := putE (putE (putE t 0 0) 8 0) 16 0) 5 (.int .u64 0) rfl
  obtain ⟨hS3, hE3⟩ := hE2.put (t' := putE (putE (putE t 0 0) 8 0) 16 0) 6 (.int .u64 0) rfl
  obtain ⟨hS4, hE4⟩ := hE3.put (t' := { (putE (putE (putE t 0 0) 8 0) 16 0 : Eg) with st := 0 }) 7 (.int .u64 0) rfl
  obtain ⟨hS5, hE5⟩ := hE4.put (t' := putE ({ (putE (putE (putE t 0 0) 8 0) 16 0 : Eg) with st := 0 }) 40 0) 8 (.int .u64 0) rfl
  obtain ⟨hS6, hE6⟩ := hE5.put (t' := putE (putE ({ (putE (putE (putE t 0 0) 8 0) 16 0 : Eg) with st := 0 }) 40 0) 48 0) 9 (.int .u64 0) rfl
  obtain ⟨hS7, hE7⟩ := hE6.put (t' := { (putE (putE ({ (putE (putE (putE t 0 0) 8 0) 16 0 : Eg) with st := 0 }) 40 0) 48 0 : Eg) with cp := 0 }) 10 (.int .u64 0) rfl
  have hS := ((((((hS0.trans hS1).trans hS2).trans hS3).trans hS4).trans hS5).trans hS6).trans hS7
  have he : erC dev mv uv ({ (putE (putE ({ (putE (putE (putE t 0 0) 8 0) 16 0 : Eg) with st := 0 }) 40 0) 48 0 : Eg) with cp := 0 }) = erC dev mv uv eg0 := rfl
  have HF := Lib.hid (And.intro hS (show ErAt own c _ q dev mv uv eg0 from ⟨by rw [← he]; exact hE7.1, hE7.2⟩))
  clear hS0 hE0 hS1 hE1 hS2 hE2 hS3 hE3 hS4 hE4 hS5 hE5 hS6 hE6 hS7 hE7 hS he h
  go_enter Tryz.func52, Tryz.ntmps52
  go_wp2
  go_end0
  exact ⟨rfl, HF.out⟩
end
end Go.Proofs.YtonhlgfgbdiapaaGreat
