import Derived.Test.YtonhlgfgbdiapaaGreatEr2
/- The document's engine: Write. -/
namespace Go.Proofs.YtonhlgfgbdiapaaGreat
set_option linter.unusedVariables false
set_option linter.unusedSimpArgs false
open Go.RowKit
set_option maxRecDepth 100000
section
variable {own own' : Nat → Nat} {c q : Nat} {dev : Int} {mv uv : Value} {w w' : World} {t t' : Eg}
theorem ErAt.putR (h : ErAt own c w q dev mv uv t) (r N : Nat) (hr : r < 7) (h3 : r ≠ 3) (h4 : r ≠ 4) : Step (· = c) own w own (w.setCell ⟨q, 3 + r, none⟩ (.int .u64 (N : Int))) ∧ ErAt own c (w.setCell ⟨q, 3 + r, none⟩ (.int .u64 (N : Int))) q dev mv uv (putE t (8 * r) N) := by
  refine h.put (t' := putE t (8 * r) N) (3 + r) (.int .u64 (N : Int)) ?_
  rcases (show r = 0 ∨ r = 1 ∨ r = 2 ∨ r = 5 ∨ r = 6 by omega) with rfl | rfl | rfl | rfl | rfl <;> rfl
set_option maxHeartbeats 3000000 in
theorem eref_Write (h : ErAt own c w q dev mv uv t) (hok : ErOk t) (off : Nat) (hoff : off < 18446744073709551616) (size : Int) (hs0 : -9223372036854775808 ≤ size) (hs1 : size ≤ 9223372036854775807) (v : Nat) (hv : v < 18446744073709551616) :
    Calls Tryz.prog 48 #[.pointer (some ⟨q, 0, none⟩), .int .u64 (off : Int), .int .i64 size, .int .u64 (v : Int)] w fun x w' => x = .returned (.bool (fitsE off size)) ∧ Step (· = c) own w own w' ∧ ErAt own c w' q dev mv uv (writeD t off size v) := by
  have hP := eref_place off hoff size hs0 hs1 w
  cases hf : fitsE off size with
  | false =>
    rw [hf, if_neg (by decide), if_neg (by decide)] at hP
    rw [show writeD t off size v = t from by unfold writeD; rw [hf]; rfl]
    have HP := Lib.hid hP
    have HF := Lib.hid (And.intro (Step.refl (· = c) own w) h)
    clear hP h hok
    go_enter Tryz.func48, Tryz.ntmps48
    go_wp2_with fail
    ((with_reducible refine HP.out.mono ?_); rintro x wz ⟨rfl, rfl⟩)
    clear HP
    go_wp2
    go_ret
    exact ⟨rfl, HF.out⟩
  | true =>
    rw [hf, if_pos rfl, if_pos rfl] at hP
    obtain ⟨hz, hm, ho⟩ := fitsE_iff.1 hf
    obtain ⟨r, hr⟩ : ∃ r, off / 8 = r := ⟨_, rfl⟩
    obtain ⟨i, hi⟩ : ∃ i, off % 8 = i := ⟨_, rfl⟩
    have hr7 : r < 7 := by omega
    obtain ⟨lv, hlv⟩ : ∃ lv, lowV size v = lv := ⟨_, rfl⟩
    have hwd : writeD t off size v = if t.st = 1 then (if r = 3 ∧ i = 0 ∧ lv / 2 % 2 = 1 then { t with st := 0 } else t) else if r = 4 then t else if r = 3 then (if i = 0 ∧ lv % 2 = 1 then beginD t else if i = 0 ∧ lv / 2 % 2 = 1 then { t with st := 0 } else t) else putE t (8 * r) (if size = 8 then lv else if i = 0 then t.rg (8 * r) / 4294967296 * 4294967296 + lv else t.rg (8 * r) % 4294967296 + lv * 4294967296) := by
      unfold writeD putD
      rw [hf, if_pos rfl, hlv, show off / 8 * 8 = 8 * r by omega, hr, hi]
    rw [hr, hi] at hP
    have hil : i < 8 := by omega
    have hzi : (size = 8 ∧ i = 0) ∨ (size = 4 ∧ i = 0) ∨ (size = 4 ∧ i = 4) := by
      rcases hz with rfl | rfl <;> omega
    have hc := h.reg r hr7
    have hzz := h.froz
    obtain ⟨_, _, _, _, _, _, c7, _, _, _, hlt⟩ := h.cells
    have z7 := h.froz 7
    have zr := h.froz (3 + r)
    have hp0 := h.put (t' := { t with st := 0 }) 7 (.int .u64 0) rfl
    have hbg := eref_begin h
    have hR : r ≠ 3 → r ≠ 4 → regD t r = t.rg (8 * r) := fun h3 h4 => by unfold regD; rw [if_neg h3, if_neg h4]
    have hold : t.rg (8 * r) < 18446744073709551616 := hok.rg _
    have hPR := fun N h3 h4 => h.putR r N hr7 h3 h4
    have hid := And.intro (Step.refl (· = c) own w) h
    have hvq : ∀ x : Nat, (((x : Int) / 2 % 2 == 1) = decide (x / 2 % 2 = 1)) ∧ (((x : Int) % 2 == 1) = decide (x % 2 = 1)) := by
      intro x
      constructor
      · by_cases h : x / 2 % 2 = 1
        · rw [decide_eq_true h]; simp; omega
        · rw [decide_eq_false h]; simp; omega
      · by_cases h : x % 2 = 1
        · rw [decide_eq_true h]; simp; omega
        · rw [decide_eq_false h]; simp; omega
    obtain ⟨q2, q1⟩ := hvq lv
    have HP := Lib.hid hP
    clear hP hf hz hm ho hr hi hzz hvq h hok
    rcases hzi with ⟨rfl, rfl⟩ | ⟨rfl, rfl⟩ | ⟨rfl, rfl⟩
    · obtain rfl : v = lv := by rw [← hlv]; unfold lowV; rw [if_neg (by decide)]
      clear hlv
      by_cases hs : t.st = 1
      · by_cases h3 : r = 3
        · by_cases hb2 : v / 2 % 2 = 1
          · rw [decide_eq_true hb2] at q2
            have es : ((t.st : Int) == 1) = true := by rw [hs]; rfl
            have e3 : ((r : Int) == 3) = true := by rw [h3]; rfl
            rw [show writeD t off 8 v = { t with st := 0 } from by rw [hwd]; simp [hs, h3, hb2]]
            have HF := Lib.hid (hp0)
            clear hp0 hbg hPR hid hwd
            go_enter Tryz.func48, Tryz.ntmps48
            go_wp2_with fail
            ((with_reducible refine HP.out.mono ?_); rintro x wz ⟨rfl, rfl⟩)
            clear HP
            go_wp2
            go_ret
            exact ⟨rfl, HF.out⟩
          · rw [decide_eq_false hb2] at q2
            have es : ((t.st : Int) == 1) = true := by rw [hs]; rfl
            have e3 : ((r : Int) == 3) = true := by rw [h3]; rfl
            rw [show writeD t off 8 v = t from by rw [hwd]; simp [hs, h3, hb2]]
            have HF := Lib.hid (hid)
            clear hp0 hbg hPR hid hwd
            go_enter Tryz.func48, Tryz.ntmps48
            go_wp2_with fail
            ((with_reducible refine HP.out.mono ?_); rintro x wz ⟨rfl, rfl⟩)
            clear HP
            go_wp2
            go_ret
            exact ⟨rfl, HF.out⟩
        · have es : ((t.st : Int) == 1) = true := by rw [hs]; rfl
          have e3 : ((r : Int) == 3) = false := by simp; omega
          rw [show writeD t off 8 v = t from by rw [hwd]; simp [hs, h3]]
          have HF := Lib.hid (hid)
          clear hp0 hbg hPR hid hwd
          go_enter Tryz.func48, Tryz.ntmps48
          go_wp2_with fail
          ((with_reducible refine HP.out.mono ?_); rintro x wz ⟨rfl, rfl⟩)
          clear HP
          go_wp2
          go_ret
          exact ⟨rfl, HF.out⟩
      · by_cases h4 : r = 4
        · have e3 : ((r : Int) == 3) = false := by simp; omega
          have es : ((t.st : Int) == 1) = false := by simp; omega
          have e4 : ((r : Int) == 4) = true := by rw [h4]; rfl
          rw [show writeD t off 8 v = t from by rw [hwd]; simp [hs, h4]]
          have HF := Lib.hid (hid)
          clear hp0 hbg hPR hid hwd
          go_enter Tryz.func48, Tryz.ntmps48
          go_wp2_with fail
          ((with_reducible refine HP.out.mono ?_); rintro x wz ⟨rfl, rfl⟩)
          clear HP
          go_wp2
          go_ret
          exact ⟨rfl, HF.out⟩
        · by_cases h3 : r = 3
          · by_cases hb1 : v % 2 = 1
            · rw [decide_eq_true hb1] at q1
              have es : ((t.st : Int) == 1) = false := by simp; omega
              have e4 : ((r : Int) == 4) = false := by simp; omega
              have e3 : ((r : Int) == 3) = true := by rw [h3]; rfl
              rw [show writeD t off 8 v = beginD t from by rw [hwd]; simp [hs, h4, h3, hb1]]
              have HF := Lib.hid (hbg)
              clear hp0 hbg hPR hid hwd
              go_enter Tryz.func48, Tryz.ntmps48
              go_wp2_with fail
              ((with_reducible refine HP.out.mono ?_); rintro x wz ⟨rfl, rfl⟩)
              clear HP
              go_wp2_with fail
              ((with_reducible refine HF.out.mono ?_); rintro x w2 ⟨rfl, h2⟩)
              have HF := Lib.hid h2
              clear h2
              go_wp2
              go_ret
              exact ⟨rfl, HF.out⟩
            · rw [decide_eq_false hb1] at q1
              by_cases hb2 : v / 2 % 2 = 1
              · rw [decide_eq_true hb2] at q2
                have es : ((t.st : Int) == 1) = false := by simp; omega
                have e4 : ((r : Int) == 4) = false := by simp; omega
                have e3 : ((r : Int) == 3) = true := by rw [h3]; rfl
                rw [show writeD t off 8 v = { t with st := 0 } from by rw [hwd]; simp [hs, h4, h3, hb1, hb2]]
                have HF := Lib.hid (hp0)
                clear hp0 hbg hPR hid hwd
                go_enter Tryz.func48, Tryz.ntmps48
                go_wp2_with fail
                ((with_reducible refine HP.out.mono ?_); rintro x wz ⟨rfl, rfl⟩)
                clear HP
                go_wp2
                go_ret
                exact ⟨rfl, HF.out⟩
              · rw [decide_eq_false hb2] at q2
                have es : ((t.st : Int) == 1) = false := by simp; omega
                have e4 : ((r : Int) == 4) = false := by simp; omega
                have e3 : ((r : Int) == 3) = true := by rw [h3]; rfl
                rw [show writeD t off 8 v = t from by rw [hwd]; simp [hs, h4, h3, hb1, hb2]]
                have HF := Lib.hid (hid)
                clear hp0 hbg hPR hid hwd
                go_enter Tryz.func48, Tryz.ntmps48
                go_wp2_with fail
                ((with_reducible refine HP.out.mono ?_); rintro x wz ⟨rfl, rfl⟩)
                clear HP
                go_wp2
                go_ret
                exact ⟨rfl, HF.out⟩
          · rw [hR h3 h4] at hc
            obtain ⟨N, hN⟩ : ∃ N, v = N := ⟨_, rfl⟩
            rw [show writeD t off 8 v = putE t (8 * r) N from by rw [hwd, ← hN]; simp [hs, h4, h3]]
            have es : ((t.st : Int) == 1) = false := by simp; omega
            have e4 : ((r : Int) == 4) = false := by simp; omega
            have e3 : ((r : Int) == 3) = false := by simp; omega
            subst hN
            have HF := Lib.hid (hPR v h3 h4)
            clear hp0 hbg hPR hid hwd
            go_enter Tryz.func48, Tryz.ntmps48
            go_wp2_with fail
            ((with_reducible refine HP.out.mono ?_); rintro x wz ⟨rfl, rfl⟩)
            clear HP
            go_wp2
            go_ret
            exact ⟨rfl, HF.out⟩
    · have hlm : (v : Int) % 4294967296 = (lv : Int) := by rw [← hlv]; unfold lowV; rw [if_pos rfl]; omega
      have hl32 : lv < 4294967296 := by rw [← hlv]; unfold lowV; rw [if_pos rfl]; omega
      clear hlv
      by_cases hs : t.st = 1
      · by_cases h3 : r = 3
        · by_cases hb2 : lv / 2 % 2 = 1
          · rw [decide_eq_true hb2] at q2
            have es : ((t.st : Int) == 1) = true := by rw [hs]; rfl
            have e3 : ((r : Int) == 3) = true := by rw [h3]; rfl
            rw [show writeD t off 4 v = { t with st := 0 } from by rw [hwd]; simp [hs, h3, hb2]]
            have HF := Lib.hid (hp0)
            clear hp0 hbg hPR hid hwd
            go_enter Tryz.func48, Tryz.ntmps48
            go_wp2_with fail
            ((with_reducible refine HP.out.mono ?_); rintro x wz ⟨rfl, rfl⟩)
            clear HP
            go_wp2
            go_ret
            exact ⟨rfl, HF.out⟩
          · rw [decide_eq_false hb2] at q2
            have es : ((t.st : Int) == 1) = true := by rw [hs]; rfl
            have e3 : ((r : Int) == 3) = true := by rw [h3]; rfl
            rw [show writeD t off 4 v = t from by rw [hwd]; simp [hs, h3, hb2]]
            have HF := Lib.hid (hid)
            clear hp0 hbg hPR hid hwd
            go_enter Tryz.func48, Tryz.ntmps48
            go_wp2_with fail
            ((with_reducible refine HP.out.mono ?_); rintro x wz ⟨rfl, rfl⟩)
            clear HP
            go_wp2
            go_ret
            exact ⟨rfl, HF.out⟩
        · have es : ((t.st : Int) == 1) = true := by rw [hs]; rfl
          have e3 : ((r : Int) == 3) = false := by simp; omega
          rw [show writeD t off 4 v = t from by rw [hwd]; simp [hs, h3]]
          have HF := Lib.hid (hid)
          clear hp0 hbg hPR hid hwd
          go_enter Tryz.func48, Tryz.ntmps48
          go_wp2_with fail
          ((with_reducible refine HP.out.mono ?_); rintro x wz ⟨rfl, rfl⟩)
          clear HP
          go_wp2
          go_ret
          exact ⟨rfl, HF.out⟩
      · by_cases h4 : r = 4
        · have e3 : ((r : Int) == 3) = false := by simp; omega
          have es : ((t.st : Int) == 1) = false := by simp; omega
          have e4 : ((r : Int) == 4) = true := by rw [h4]; rfl
          rw [show writeD t off 4 v = t from by rw [hwd]; simp [hs, h4]]
          have HF := Lib.hid (hid)
          clear hp0 hbg hPR hid hwd
          go_enter Tryz.func48, Tryz.ntmps48
          go_wp2_with fail
          ((with_reducible refine HP.out.mono ?_); rintro x wz ⟨rfl, rfl⟩)
          clear HP
          go_wp2
          go_ret
          exact ⟨rfl, HF.out⟩
        · by_cases h3 : r = 3
          · by_cases hb1 : lv % 2 = 1
            · rw [decide_eq_true hb1] at q1
              have es : ((t.st : Int) == 1) = false := by simp; omega
              have e4 : ((r : Int) == 4) = false := by simp; omega
              have e3 : ((r : Int) == 3) = true := by rw [h3]; rfl
              rw [show writeD t off 4 v = beginD t from by rw [hwd]; simp [hs, h4, h3, hb1]]
              have HF := Lib.hid (hbg)
              clear hp0 hbg hPR hid hwd
              go_enter Tryz.func48, Tryz.ntmps48
              go_wp2_with fail
              ((with_reducible refine HP.out.mono ?_); rintro x wz ⟨rfl, rfl⟩)
              clear HP
              go_wp2_with fail
              ((with_reducible refine HF.out.mono ?_); rintro x w2 ⟨rfl, h2⟩)
              have HF := Lib.hid h2
              clear h2
              go_wp2
              go_ret
              exact ⟨rfl, HF.out⟩
            · rw [decide_eq_false hb1] at q1
              by_cases hb2 : lv / 2 % 2 = 1
              · rw [decide_eq_true hb2] at q2
                have es : ((t.st : Int) == 1) = false := by simp; omega
                have e4 : ((r : Int) == 4) = false := by simp; omega
                have e3 : ((r : Int) == 3) = true := by rw [h3]; rfl
                rw [show writeD t off 4 v = { t with st := 0 } from by rw [hwd]; simp [hs, h4, h3, hb1, hb2]]
                have HF := Lib.hid (hp0)
                clear hp0 hbg hPR hid hwd
                go_enter Tryz.func48, Tryz.ntmps48
                go_wp2_with fail
                ((with_reducible refine HP.out.mono ?_); rintro x wz ⟨rfl, rfl⟩)
                clear HP
                go_wp2
                go_ret
                exact ⟨rfl, HF.out⟩
              · rw [decide_eq_false hb2] at q2
                have es : ((t.st : Int) == 1) = false := by simp; omega
                have e4 : ((r : Int) == 4) = false := by simp; omega
                have e3 : ((r : Int) == 3) = true := by rw [h3]; rfl
                rw [show writeD t off 4 v = t from by rw [hwd]; simp [hs, h4, h3, hb1, hb2]]
                have HF := Lib.hid (hid)
                clear hp0 hbg hPR hid hwd
                go_enter Tryz.func48, Tryz.ntmps48
                go_wp2_with fail
                ((with_reducible refine HP.out.mono ?_); rintro x wz ⟨rfl, rfl⟩)
                clear HP
                go_wp2
                go_ret
                exact ⟨rfl, HF.out⟩
          · rw [hR h3 h4] at hc
            obtain ⟨N, hN⟩ : ∃ N, (t.rg (8 * r) / 4294967296 * 4294967296 + lv) = N := ⟨_, rfl⟩
            rw [show writeD t off 4 v = putE t (8 * r) N from by rw [hwd, ← hN]; simp [hs, h4, h3]]
            have es : ((t.st : Int) == 1) = false := by simp; omega
            have e4 : ((r : Int) == 4) = false := by simp; omega
            have e3 : ((r : Int) == 3) = false := by simp; omega
            have hN2 : (t.rg (8 * r) : Int) / 4294967296 * 4294967296 + (lv : Int) = (N : Int) := by omega
            have hNl : N < 18446744073709551616 := by omega
            have HF := Lib.hid (hPR N h3 h4)
            clear hp0 hbg hPR hid hwd hN
            go_enter Tryz.func48, Tryz.ntmps48
            go_wp2_with fail
            ((with_reducible refine HP.out.mono ?_); rintro x wz ⟨rfl, rfl⟩)
            clear HP
            go_wp2
            go_ret
            exact ⟨rfl, HF.out⟩
    · have hlm : (v : Int) % 4294967296 = (lv : Int) := by rw [← hlv]; unfold lowV; rw [if_pos rfl]; omega
      have hl32 : lv < 4294967296 := by rw [← hlv]; unfold lowV; rw [if_pos rfl]; omega
      clear hlv
      by_cases hs : t.st = 1
      · by_cases h3 : r = 3
        · have es : ((t.st : Int) == 1) = true := by rw [hs]; rfl
          have e3 : ((r : Int) == 3) = true := by rw [h3]; rfl
          rw [show writeD t off 4 v = t from by rw [hwd]; simp [hs, h3]]
          have HF := Lib.hid (hid)
          clear hp0 hbg hPR hid hwd
          go_enter Tryz.func48, Tryz.ntmps48
          go_wp2_with fail
          ((with_reducible refine HP.out.mono ?_); rintro x wz ⟨rfl, rfl⟩)
          clear HP
          go_wp2
          go_ret
          exact ⟨rfl, HF.out⟩
        · have es : ((t.st : Int) == 1) = true := by rw [hs]; rfl
          have e3 : ((r : Int) == 3) = false := by simp; omega
          rw [show writeD t off 4 v = t from by rw [hwd]; simp [hs, h3]]
          have HF := Lib.hid (hid)
          clear hp0 hbg hPR hid hwd
          go_enter Tryz.func48, Tryz.ntmps48
          go_wp2_with fail
          ((with_reducible refine HP.out.mono ?_); rintro x wz ⟨rfl, rfl⟩)
          clear HP
          go_wp2
          go_ret
          exact ⟨rfl, HF.out⟩
      · by_cases h4 : r = 4
        · have e3 : ((r : Int) == 3) = false := by simp; omega
          have es : ((t.st : Int) == 1) = false := by simp; omega
          have e4 : ((r : Int) == 4) = true := by rw [h4]; rfl
          rw [show writeD t off 4 v = t from by rw [hwd]; simp [hs, h4]]
          have HF := Lib.hid (hid)
          clear hp0 hbg hPR hid hwd
          go_enter Tryz.func48, Tryz.ntmps48
          go_wp2_with fail
          ((with_reducible refine HP.out.mono ?_); rintro x wz ⟨rfl, rfl⟩)
          clear HP
          go_wp2
          go_ret
          exact ⟨rfl, HF.out⟩
        · by_cases h3 : r = 3
          · have es : ((t.st : Int) == 1) = false := by simp; omega
            have e4 : ((r : Int) == 4) = false := by simp; omega
            have e3 : ((r : Int) == 3) = true := by rw [h3]; rfl
            rw [show writeD t off 4 v = t from by rw [hwd]; simp [hs, h4, h3]]
            have HF := Lib.hid (hid)
            clear hp0 hbg hPR hid hwd
            go_enter Tryz.func48, Tryz.ntmps48
            go_wp2_with fail
            ((with_reducible refine HP.out.mono ?_); rintro x wz ⟨rfl, rfl⟩)
            clear HP
            go_wp2
            go_ret
            exact ⟨rfl, HF.out⟩
          · rw [hR h3 h4] at hc
            obtain ⟨N, hN⟩ : ∃ N, (t.rg (8 * r) % 4294967296 + lv * 4294967296) = N := ⟨_, rfl⟩
            rw [show writeD t off 4 v = putE t (8 * r) N from by rw [hwd, ← hN]; simp [hs, h4, h3]]
            have es : ((t.st : Int) == 1) = false := by simp; omega
            have e4 : ((r : Int) == 4) = false := by simp; omega
            have e3 : ((r : Int) == 3) = false := by simp; omega
            have hN2 : (t.rg (8 * r) : Int) % 4294967296 + (lv : Int) * 4294967296 = (N : Int) := by omega
            have hw1 : IntKind.u64.wrap ((lv : Int) * 4294967296) = (lv : Int) * 4294967296 := IntWalk.u64_in _ (by omega)
            have hNl : N < 18446744073709551616 := by omega
            have HF := Lib.hid (hPR N h3 h4)
            clear hp0 hbg hPR hid hwd hN
            go_enter Tryz.func48, Tryz.ntmps48
            go_wp2_with fail
            ((with_reducible refine HP.out.mono ?_); rintro x wz ⟨rfl, rfl⟩)
            clear HP
            go_wp2
            go_ret
            exact ⟨rfl, HF.out⟩
end
end Go.Proofs.YtonhlgfgbdiapaaGreat
