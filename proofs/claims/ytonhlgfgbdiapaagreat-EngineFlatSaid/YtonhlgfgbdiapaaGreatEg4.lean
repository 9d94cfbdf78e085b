import Derived.Test.YtonhlgfgbdiapaaGreatEg3
/- The engine: Read; Flat; a flat way. -/
namespace Go.Proofs.YtonhlgfgbdiapaaGreat
set_option linter.unusedVariables false
set_option linter.unusedSimpArgs false
open Go.RowKit Go.Maps
set_option maxRecDepth 100000

section
variable {own own' : Nat → Nat} {c e mp rb b : Nat} {way rd : Value} {w w' : World} {s s' : Eg}
set_option maxHeartbeats 3000000 in
theorem eng_Read (h : EngAt own c w e mp way s) (hok : EgOk s) (off : Nat) (hoff : off < 18446744073709551616) (size : Int) (hs0 : -9223372036854775808 ≤ size) (hs1 : size ≤ 9223372036854775807) :
    Calls Tryz.prog 12 #[.pointer (some ⟨e, 0, none⟩), .int .u64 (off : Int), .int .i64 size] w fun x w' => x = .returned (.tuple #[.int .u64 (readE s off size : Int), .bool (fitsE off size)]) ∧ ∃ own', Step (· = c) own w own' w' ∧ EngAt own' c w' e mp way s := by
  have HFi := Lib.hid (eng_fits off hoff size hs0 hs1 w)
  cases hf : fitsE off size with
  | false =>
    rw [hf] at HFi
    rw [show readE s off size = 0 from by unfold readE; rw [hf]; rfl]
    have HF := Lib.hid (And.intro (Step.refl (· = c) own w) h)
    clear h hok hf
    go_enter Tryz.func12, Tryz.ntmps12
    go_wp2_with fail
    ((with_reducible refine HFi.out.mono ?_); rintro x wz ⟨rfl, rfl⟩)
    clear HFi
    go_wp2
    go_ret2
    exact ⟨rfl, _, HF.out⟩
  | true =>
    rw [hf] at HFi
    obtain ⟨hsz, hmod, hoff2⟩ : (size = 4 ∨ size = 8) ∧ (off : Int) % size = 0 ∧ off < 56 := by
      unfold fitsE at hf
      simp only [Bool.and_eq_true, Bool.or_eq_true, beq_iff_eq, decide_eq_true_eq] at hf
      exact ⟨hf.1.1, hf.1.2, hf.2⟩
    have hrd : readE s off size = if size = 8 then regE s (off / 8 * 8) else regE s (off / 8 * 8) / 2 ^ (8 * (off % 8)) % 4294967296 := by unfold readE; rw [hf]; rfl
    rw [hrd]
    have hrg := eng_register h off hoff2
    obtain ⟨k, hk⟩ : ∃ k, off / 8 * 8 = k := ⟨_, rfl⟩
    rw [hk] at hrg ⊢
    have hb := hok.rg
    have hst := hok.st
    have key : ∀ V : Nat, V < 18446744073709551616 → V = regE s k → True := fun _ _ _ => trivial
    have hV : regE s k < 18446744073709551616 := by unfold regE; split; decide; split; omega; exact hb k
    obtain ⟨V, hVe⟩ : ∃ V, regE s k = V := ⟨_, rfl⟩
    rw [hVe] at hV ⊢
    have hrv : ∃ f, (kvGet (rdsL e) k).getD .nilFunc = bmE f e ∧ (f = 38 ∨ f = 39 ∨ f = 41 ∨ f = 62 ∨ f = 63 ∨ f = 42 ∨ f = 43) ∧
        ∀ (own' : Nat → Nat) (w' : World), EngAt own' c w' e mp way s → Calls Tryz.prog f #[.pointer (some ⟨e, 0, none⟩)] w' fun x w'' => x = .returned (.int .u64 (V : Int)) ∧ w' = w'' := by
      rcases (show k = 0 ∨ k = 8 ∨ k = 16 ∨ k = 24 ∨ k = 32 ∨ k = 40 ∨ k = 48 by omega) with rfl | rfl | rfl | rfl | rfl | rfl | rfl
      · exact ⟨_, rfl, by decide, fun _ _ h => by rw [← hVe]; exact eng_src h⟩
      · exact ⟨_, rfl, by decide, fun _ _ h => by rw [← hVe]; exact eng_dst h⟩
      · exact ⟨_, rfl, by decide, fun _ _ h => by rw [← hVe]; exact eng_len h⟩
      · exact ⟨_, rfl, by decide, fun _ _ h => by rw [← hVe]; exact eng_control _⟩
      · exact ⟨_, rfl, by decide, fun _ _ h => by rw [← hVe]; exact eng_status h⟩
      · exact ⟨_, rfl, by decide, fun _ _ h => by rw [← hVe]; exact eng_msi h⟩
      · exact ⟨_, rfl, by decide, fun _ _ h => by rw [← hVe]; exact eng_data h⟩
    obtain ⟨f, hbm, hfs, hC⟩ := hrv
    rw [hbm] at hrg
    unfold bmE at hrg
    have HRg := Lib.hid hrg
    have HC := Lib.hid hC
    have ha4 := and4_u off hoff2
    have hfin : (if size = 8 then V else V / 2 ^ (8 * (off % 8)) % 4294967296) = if size = 8 then V else if off / 4 % 2 = 1 then V / 4294967296 else V % 4294967296 := by
      rcases hsz with rfl | rfl
      · rw [if_neg (by decide), if_neg (by decide)]
        by_cases h4 : off / 4 % 2 = 1
        · rw [if_pos h4, show off % 8 = 4 by omega]; omega
        · rw [if_neg h4, show off % 8 = 0 by omega]; omega
      · rfl
    rw [hfin]
    clear hrg hC hbm h hok hf hrd hb hst key hVe hfin hk
    rcases hsz with rfl | rfl
    · by_cases h4 : off / 4 % 2 = 1
      · rw [if_neg (by decide), if_pos h4, show ((V / 4294967296 : Nat) : Int) = (V : Int) / 4294967296 by omega]
        rw [h4] at ha4
        have ha4' : bits .and .u64 (off : Int) 4 = 4 := ha4
        clear ha4 h4 hmod
        rcases hfs with rfl | rfl | rfl | rfl | rfl | rfl | rfl
        all_goals
          go_enter Tryz.func12, Tryz.ntmps12
          go_wp2_with fail
          ((with_reducible refine HFi.out.mono ?_); rintro x wz ⟨rfl, rfl⟩)
          clear HFi
          go_wp2_with fail
          ((with_reducible refine HRg.out.mono ?_); rintro x w1 ⟨rfl, own1, hS1, hE1⟩)
          have HF := Lib.hid (And.intro hS1 hE1)
          have HCC := Lib.hid (HC.out _ _ hE1)
          clear hS1 hE1 HRg HC
          go_wp2_with fail
          ((with_reducible refine HCC.out.mono ?_); rintro x wz ⟨rfl, rfl⟩)
          clear HCC
          go_wp2
          go_ret2
          exact ⟨rfl, _, HF.out⟩
      · rw [if_neg (by decide), if_neg h4, show ((V % 4294967296 : Nat) : Int) = (V : Int) % 4294967296 by omega]
        rw [show off / 4 % 2 = 0 by omega] at ha4
        have ha4' : bits .and .u64 (off : Int) 4 = 0 := ha4
        clear ha4 h4 hmod
        rcases hfs with rfl | rfl | rfl | rfl | rfl | rfl | rfl
        all_goals
          go_enter Tryz.func12, Tryz.ntmps12
          go_wp2_with fail
          ((with_reducible refine HFi.out.mono ?_); rintro x wz ⟨rfl, rfl⟩)
          clear HFi
          go_wp2_with fail
          ((with_reducible refine HRg.out.mono ?_); rintro x w1 ⟨rfl, own1, hS1, hE1⟩)
          have HF := Lib.hid (And.intro hS1 hE1)
          have HCC := Lib.hid (HC.out _ _ hE1)
          clear hS1 hE1 HRg HC
          go_wp2_with fail
          ((with_reducible refine HCC.out.mono ?_); rintro x wz ⟨rfl, rfl⟩)
          clear HCC
          go_wp2
          go_ret2
          exact ⟨rfl, _, HF.out⟩
    · rw [if_pos rfl]
      clear ha4 hmod
      rcases hfs with rfl | rfl | rfl | rfl | rfl | rfl | rfl
      all_goals
        go_enter Tryz.func12, Tryz.ntmps12
        go_wp2_with fail
        ((with_reducible refine HFi.out.mono ?_); rintro x wz ⟨rfl, rfl⟩)
        clear HFi
        go_wp2_with fail
        ((with_reducible refine HRg.out.mono ?_); rintro x w1 ⟨rfl, own1, hS1, hE1⟩)
        have HF := Lib.hid (And.intro hS1 hE1)
        have HCC := Lib.hid (HC.out _ _ hE1)
        clear hS1 hE1 HRg HC
        go_wp2_with fail
        ((with_reducible refine HCC.out.mono ?_); rintro x wz ⟨rfl, rfl⟩)
        clear HCC
        go_wp2
        go_ret2
        exact ⟨rfl, _, HF.out⟩
end
end Go.Proofs.YtonhlgfgbdiapaaGreat
