import Derived.Test.YtlgcplekcmocbaaUmb
/- The document's page tables: Guest. -/
namespace Go.Proofs.Ytlgcplekcmocbaa
set_option linter.unusedVariables false
set_option linter.unusedSimpArgs false
open Go.RowKit
set_option maxRecDepth 100000

theorem i64_and_nat (a b : Nat) (ha : a < 9223372036854775808) (hb : b < 9223372036854775808) : bits .and .i64 (a : Int) (b : Int) = ((a &&& b : Nat) : Int) := by
  have hx : a &&& b < 2 ^ 63 := Nat.and_lt_two_pow _ (by omega)
  show IntKind.i64.wrap ((BitVec.ofInt 64 (a : Int) &&& BitVec.ofInt 64 (b : Int)).toNat : Int) = _
  rw [BitVec.toNat_and, ofInt_u64 a (by omega), ofInt_u64 b (by omega)]
  rw [IntWalk.i64_in _ (by omega)]
theorem i64_or_nat (a b : Nat) (ha : a < 9223372036854775808) (hb : b < 9223372036854775808) : bits .or .i64 (a : Int) (b : Int) = ((a ||| b : Nat) : Int) := by
  have hx : a ||| b < 2 ^ 63 := Nat.or_lt_two_pow (by omega) (by omega)
  show IntKind.i64.wrap ((BitVec.ofInt 64 (a : Int) ||| BitVec.ofInt 64 (b : Int)).toNat : Int) = _
  rw [BitVec.toNat_or, ofInt_u64 a (by omega), ofInt_u64 b (by omega)]
  rw [IntWalk.i64_in _ (by omega)]
theorem rd_ent {n : Nat} {m : Nat → Int} (hm : ∀ x, 0 ≤ m x ∧ m x < 256) (T ix : Nat) (hix : ix < 512) (hn : n ≤ 1024) (addr : Int) (he : addr = ((T * 4096 + 8 * ix : Nat) : Int)) : rdR 0 n m addr 8 = if n ≤ T then (0, false) else ((ent m T ix : Int), true) := by
  subst he
  unfold rdR
  rw [show okS 8 = true from rfl]
  by_cases h : n ≤ T
  · rw [if_pos h]
    have : hasR 0 n ((T * 4096 + 8 * ix : Nat) : Int) 8 = false := by
      cases hq : hasR 0 n ((T * 4096 + 8 * ix : Nat) : Int) 8 with
      | false => rfl
      | true => have := hasR_iff.1 hq; omega
    rw [this]; rfl
  · rw [if_neg h]
    have : hasR 0 n ((T * 4096 + 8 * ix : Nat) : Int) 8 = true := hasR_iff.2 ⟨by decide, by omega, by omega, by omega⟩
    rw [this]
    simp only [Bool.and_self, if_true]
    rw [show (((T * 4096 + 8 * ix : Nat) : Int) - ((0 : Nat) : Int)).toNat = T * 4096 + 8 * ix from by omega, show (8 : Int).toNat = 8 from rfl, ent_num hm]
theorem perm_u (e : Nat) (he : e < 18014398509481984) {v4 v128 : Bool} (h4 : (e &&& 4 == 0) = v4) (h128 : (e &&& 128 == 0) = v128) : permE e = if !v4 && !v128 then (e &&& 10) ||| 4 else e &&& 10 := by
  rw [permE_eq, h4, h128]
set_option maxHeartbeats 8000000 in
theorem rg_Guest {own : Nat → Nat} {cm p2 n : Nat} {m : Nat → Int} {w : World} (hM : MemAt refK own cm w p2 0 n m) (root a acc : Nat) (hr : root ≠ 0) (hrt : root < 18446744073709551616) (ha : a < 18446744073709551616) (hacc : acc = 2 ∨ acc = 3) :
    Calls Try.prog 74 #[.pointer (some ⟨p2, 0, none⟩), .int .u64 (root : Int), .int .u64 (a : Int), .int .i64 (acc : Int)] w fun r w' =>
      r = .returned (.tuple #[.int .u64 (((guestP 0 n m root a acc).1 : Nat) : Int), .int .i64 (((guestP 0 n m root a acc).2.1 : Nat) : Int), .int .i64 (guestP 0 n m root a acc).2.2]) ∧ Upd (fun _ => False) w w' := by
  obtain ⟨G, hG⟩ : ∃ G, guestP 0 n m root a acc = G := ⟨_, rfl⟩
  rw [hG]
  have hr0 : ((root : Int) == 0) = false := by simp; omega
  by_cases h39 : 549755813888 ≤ a
  · have hd : decide ((549755813888 : Int) ≤ (a : Int)) = true := by simp; omega
    have hg2 : G = (0, 0, 2) := by rw [← hG]; unfold guestP; rw [if_neg hr, if_pos h39]
    subst hg2
    clear hM hG
    go_enter Try.func74, Try.ntmps74
    go_wp2
    go_ret3
    exact ⟨rfl, Upd.refl _ _⟩
  · have hd : decide ((549755813888 : Int) ≤ (a : Int)) = false := by simp; omega
    rw [guestP_out hr h39] at hG
    have hbd := hM.bd
    obtain ⟨_, hn1, hn2⟩ := hM.sizes
    have HM := Lib.hid (And.intro hM hbd)
    have HG := Lib.hid hG
    clear hM hG hbd
    go_enter Try.func74, Try.ntmps74
    go_wp2
    go_loopw [11, 12] (fun tb lv wr => wr = w ∧ ((∃ L T : Nat, L ≤ 2 ∧ tb = .int .u64 (T : Int) ∧ T < 18446744073709551616 ∧ lv = .int .i64 (L : Int) ∧ Hid (gOut (dnG 0 n m a L T) a acc = G)) ∨ (∃ T : Nat, tb = .int .u64 (T : Int) ∧ lv = .int .i64 (-1) ∧ G = (0, 0, 2)))) (fun _ lv _ => (intOf lv + 1).toNat)
    case atStart => exact ⟨rfl, .inl ⟨2, root, Nat.le_refl _, rfl, hrt, rfl, HG.out⟩⟩
    case round =>
      obtain ⟨rfl, h | ⟨T, rfl, rfl, rfl⟩⟩ := hrel
      · obtain ⟨L, T, hL, rfl, hT, rfl, HD⟩ := h
        clear HG
        by_cases hT52 : 4503599627370495 < T
        · have htd : decide ((4503599627370495 : Int) < (T : Int)) = true := by simp; omega
          have hD := HD.out
          rw [dnG_step n m a L T hL, if_pos (by omega)] at hD
          have hg : G = (0, 0, 3) := by rw [← hD]; rfl
          subst hg
          have hLd : decide ((0 : Int) ≤ (L : Int)) = true := by simp
          clear hD HD
          go_wp2
          go_ret3
          exact ⟨rfl, Upd.refl _ _⟩
        · have htd : decide ((4503599627370495 : Int) < (T : Int)) = false := by simp; omega
          have hD := HD.out
          rcases (show L = 0 ∨ L = 1 ∨ L = 2 by omega) with rfl | rfl | rfl
          · have hstep := dnG_step n m a 0 T (by decide)
            rw [hstep] at hD
            obtain ⟨ix, hixe⟩ : ∃ ix, a / 2 ^ (12 + 9 * 0) % 512 = ix := ⟨_, rfl⟩
            rw [hixe] at hD
            have hix : ix < 512 := by rw [← hixe]; exact Nat.mod_lt _ (by decide)
            have hix2 : a / 4096 % 512 = ix := hixe
            have hq : (a : Int) / 4096 % 512 = (ix : Int) := by omega
            have hRd := mref_Read HM.out.1 ((T : Int) * 4096 + (ix : Int) * 8) 8 (by omega) (by omega) (by decide) (by decide)
            rw [rd_ent HM.out.2 T ix hix hn2 _ (by omega)] at hRd
            have hel := ent_lt HM.out.2 T ix
            rw [show ((0 : Nat) : Int) = 0 from rfl]
            by_cases hnT : n ≤ T
            · rw [if_pos hnT] at hD hRd
              have hg : G = (0, 0, 3) := by rw [← hD]; rfl
              subst hg
              have HR := Lib.hid hRd
              clear hD hstep HD hix hixe hix2 hRd hel
              go_wp2_with fail
              ((with_reducible refine HR.out.mono ?_); rintro e wz ⟨rfl, rfl⟩)
              clear HR
              go_wp2
              go_ret3
              exact ⟨rfl, Upd.refl _ _⟩
            · rw [if_neg hnT] at hD hRd
              obtain ⟨e, he⟩ : ∃ e, ent m T ix = e := ⟨_, rfl⟩
              rw [he] at hD hRd hel
              have HR := Lib.hid hRd
              have HW := Lib.hid (fun w => rg_wrong e hel w)
              cases hb : badE e with
              | true =>
                rw [hb] at hD HW
                rw [if_pos rfl] at hD
                have hg : G = (0, 0, 2) := by rw [← hD]; rfl
                subst hg
                clear hD hstep HD hix hixe hix2 hRd he hb
                go_wp2_with fail
                ((with_reducible refine HR.out.mono ?_); rintro e wz ⟨rfl, rfl⟩)
                clear HR
                go_wp2_with fail
                ((with_reducible refine (HW.out _).mono ?_); rintro e wz ⟨rfl, rfl⟩)
                go_wp2
                go_ret3
                exact ⟨rfl, Upd.refl _ _⟩
              | false =>
                rw [hb] at hD HW
                rw [if_neg (by decide)] at hD
                have h54 : e < 18014398509481984 := by unfold badE at hb; simp at hb; omega
                have hlf10 := and10_g e hel
                cases hlf : leafE e with
                | false =>
                  rw [hlf] at hD hlf10
                  rw [if_neg (by decide)] at hD
                  have HNu := Lib.hid (fun w => rg_number e hel w)
                  have hnl := nxt_lt e
                  have hg : G = (0, 0, 2) := by rw [← hD]; rfl
                  subst hg
                  clear hD hstep HD hix hixe hix2 hRd hb hlf he
                  simp only [Bool.not_false] at hlf10
                  go_wp2_with fail
                  ((with_reducible refine HR.out.mono ?_); rintro e wz ⟨rfl, rfl⟩)
                  clear HR
                  go_wp2_with fail
                  ((with_reducible refine (HW.out _).mono ?_); rintro e wz ⟨rfl, rfl⟩)
                  clear HW
                  go_wp2_with fail
                  ((with_reducible refine (HNu.out _).mono ?_); rintro e wz ⟨rfl, rfl⟩)
                  clear HNu
                  go_wp2
                  exact ⟨⟨by first | trivial | rfl, .inr ⟨nxtE e, by first | trivial | rfl, by first | trivial | rfl, by first | trivial | rfl⟩⟩, by simp [intOf]⟩
                | true =>
                  rw [hlf] at hD hlf10
                  rw [if_pos rfl] at hD
                  simp only [Bool.not_true] at hlf10
                  have HMi := Lib.hid (fun w => rg_misplaced e 0 hel (by decide) w)
                  cases hmi : misE e 0 with
                  | true =>
                    rw [hmi] at hD HMi
                    rw [if_pos rfl] at hD
                    have hg : G = (0, 0, 2) := by rw [← hD]; rfl
                    subst hg
                    rw [show ((0 : Nat) : Int) = 0 from rfl] at HMi
                    clear hD hstep HD hix hixe hix2 hRd hb hlf he hmi
                    go_wp2_with fail
                    ((with_reducible refine HR.out.mono ?_); rintro e wz ⟨rfl, rfl⟩)
                    clear HR
                    go_wp2_with fail
                    ((with_reducible refine (HW.out _).mono ?_); rintro e wz ⟨rfl, rfl⟩)
                    clear HW
                    go_wp2_with fail
                    ((with_reducible refine (HMi.out _).mono ?_); rintro e wz ⟨rfl, rfl⟩)
                    clear HMi
                    go_wp2
                    go_ret3
                    exact ⟨rfl, Upd.refl _ _⟩
                  | false =>
                    rw [hmi] at hD HMi
                    rw [if_neg (by decide)] at hD
                    rw [show ((0 : Nat) : Int) = 0 from rfl] at HMi
                    have HLe := Lib.hid (fun w => rg_lets e acc hel hacc w)
                    cases hle : letE e acc with
                    | false =>
                      rw [hle] at HLe
                      have hg : G = (0, 0, 2) := by rw [← hD]; unfold gOut; simp [hle]
                      subst hg
                      clear hD hstep HD hix hixe hix2 hRd hb hlf he hmi hle
                      go_wp2_with fail
                      ((with_reducible refine HR.out.mono ?_); rintro e wz ⟨rfl, rfl⟩)
                      clear HR
                      go_wp2_with fail
                      ((with_reducible refine (HW.out _).mono ?_); rintro e wz ⟨rfl, rfl⟩)
                      clear HW
                      go_wp2_with fail
                      ((with_reducible refine (HMi.out _).mono ?_); rintro e wz ⟨rfl, rfl⟩)
                      clear HMi
                      go_wp2_with fail
                      ((with_reducible refine (HLe.out _).mono ?_); rintro e wz ⟨rfl, rfl⟩)
                      clear HLe
                      go_wp2
                      go_ret3
                      exact ⟨rfl, Upd.refl _ _⟩
                    | true =>
                      rw [hle] at HLe
                      have hg : G = (plcE e 0 a, permE e, 0) := by rw [← hD]; unfold gOut; simp [hle]
                      subst hg
                      have hpu := rg_put e 0 a hel (by decide) (by omega)
                      rw [show ((0 : Nat) : Int) = 0 from rfl] at hpu
                      have HPu := Lib.hid hpu
                      obtain ⟨v4, hv4⟩ : ∃ v, (e &&& 4 == 0) = v := ⟨_, rfl⟩
                      obtain ⟨v128, hv128⟩ : ∃ v, (e &&& 128 == 0) = v := ⟨_, rfl⟩
                      obtain ⟨e4, f4⟩ := bandN e 4 hel (by decide) hv4
                      obtain ⟨e128, f128⟩ := bandN e 128 hel (by decide) hv128
                      rw [show ((4 : Nat) : Int) = 4 from rfl] at e4 f4
                      rw [show ((128 : Nat) : Int) = 128 from rfl] at e128 f128
                      have hpm := perm_u e h54 hv4 hv128
                      have h10 := i64_and_nat e 10 (by omega) (by decide)
                      have hp10 : e &&& 10 < 16 := Nat.lt_of_le_of_lt Nat.and_le_right (by decide)
                      obtain ⟨p10, hp⟩ : ∃ p, e &&& 10 = p := ⟨_, rfl⟩
                      rw [hp] at hpm h10 hp10
                      have h10o := i64_or_nat p10 4 (by omega) (by decide)
                      rw [show ((10 : Nat) : Int) = 10 from rfl] at h10
                      rw [show ((4 : Nat) : Int) = 4 from rfl] at h10o
                      obtain ⟨PM, hPM⟩ : ∃ PM, permE e = PM := ⟨_, rfl⟩
                      rw [hPM] at hpm
                      obtain ⟨PL, hPL⟩ : ∃ PL, plcE e 0 a = PL := ⟨_, rfl⟩
                      rw [hPL] at HPu
                      have HP2 := Lib.hid (And.intro hPL hPM)
                      have HPM := Lib.hid hpm
                      clear hD hstep HD hix hixe hix2 hRd hb hlf he hmi hle hv4 hv128 hp hPM hPL hpu hpm
                      rcases v4 with _ | _
                      · rcases v128 with _ | _
                        · simp only [Bool.not_false, Bool.not_true] at f4 f128
                          go_wp2_with fail
                          ((with_reducible refine HR.out.mono ?_); rintro e wz ⟨rfl, rfl⟩)
                          clear HR
                          go_wp2_with fail
                          ((with_reducible refine (HW.out _).mono ?_); rintro e wz ⟨rfl, rfl⟩)
                          clear HW
                          go_wp2_with fail
                          ((with_reducible refine (HMi.out _).mono ?_); rintro e wz ⟨rfl, rfl⟩)
                          clear HMi
                          go_wp2_with fail
                          ((with_reducible refine (HLe.out _).mono ?_); rintro e wz ⟨rfl, rfl⟩)
                          clear HLe
                          go_wp2_with fail
                          ((with_reducible refine (HPu.out _).mono ?_); rintro e w9 ⟨rfl, hU9⟩)
                          have HE := Lib.hid hU9
                          clear hU9 HPu
                          go_wp2
                          go_ret3
                          rw [HP2.out.1, HP2.out.2, HPM.out]
                          exact ⟨rfl, HE.out⟩
                        · simp only [Bool.not_false, Bool.not_true] at f4 f128
                          go_wp2_with fail
                          ((with_reducible refine HR.out.mono ?_); rintro e wz ⟨rfl, rfl⟩)
                          clear HR
                          go_wp2_with fail
                          ((with_reducible refine (HW.out _).mono ?_); rintro e wz ⟨rfl, rfl⟩)
                          clear HW
                          go_wp2_with fail
                          ((with_reducible refine (HMi.out _).mono ?_); rintro e wz ⟨rfl, rfl⟩)
                          clear HMi
                          go_wp2_with fail
                          ((with_reducible refine (HLe.out _).mono ?_); rintro e wz ⟨rfl, rfl⟩)
                          clear HLe
                          go_wp2_with fail
                          ((with_reducible refine (HPu.out _).mono ?_); rintro e w9 ⟨rfl, hU9⟩)
                          have HE := Lib.hid hU9
                          clear hU9 HPu
                          go_wp2
                          go_ret3
                          rw [HP2.out.1, HP2.out.2, HPM.out]
                          exact ⟨rfl, HE.out⟩
                      · simp only [Bool.not_true] at f4
                        clear e128 f128
                        go_wp2_with fail
                        ((with_reducible refine HR.out.mono ?_); rintro e wz ⟨rfl, rfl⟩)
                        clear HR
                        go_wp2_with fail
                        ((with_reducible refine (HW.out _).mono ?_); rintro e wz ⟨rfl, rfl⟩)
                        clear HW
                        go_wp2_with fail
                        ((with_reducible refine (HMi.out _).mono ?_); rintro e wz ⟨rfl, rfl⟩)
                        clear HMi
                        go_wp2_with fail
                        ((with_reducible refine (HLe.out _).mono ?_); rintro e wz ⟨rfl, rfl⟩)
                        clear HLe
                        go_wp2_with fail
                        ((with_reducible refine (HPu.out _).mono ?_); rintro e w9 ⟨rfl, hU9⟩)
                        have HE := Lib.hid hU9
                        clear hU9 HPu
                        go_wp2
                        go_ret3
                        rw [HP2.out.1, HP2.out.2, HPM.out]
                        exact ⟨rfl, HE.out⟩
          · have hstep := dnG_step n m a 1 T (by decide)
            rw [hstep] at hD
            obtain ⟨ix, hixe⟩ : ∃ ix, a / 2 ^ (12 + 9 * 1) % 512 = ix := ⟨_, rfl⟩
            rw [hixe] at hD
            have hix : ix < 512 := by rw [← hixe]; exact Nat.mod_lt _ (by decide)
            have hix2 : a / 2097152 % 512 = ix := hixe
            have hq : (a : Int) / 2097152 % 512 = (ix : Int) := by omega
            have hRd := mref_Read HM.out.1 ((T : Int) * 4096 + (ix : Int) * 8) 8 (by omega) (by omega) (by decide) (by decide)
            rw [rd_ent HM.out.2 T ix hix hn2 _ (by omega)] at hRd
            have hel := ent_lt HM.out.2 T ix
            rw [show ((1 : Nat) : Int) = 1 from rfl]
            by_cases hnT : n ≤ T
            · rw [if_pos hnT] at hD hRd
              have hg : G = (0, 0, 3) := by rw [← hD]; rfl
              subst hg
              have HR := Lib.hid hRd
              clear hD hstep HD hix hixe hix2 hRd hel
              go_wp2_with fail
              ((with_reducible refine HR.out.mono ?_); rintro e wz ⟨rfl, rfl⟩)
              clear HR
              go_wp2
              go_ret3
              exact ⟨rfl, Upd.refl _ _⟩
            · rw [if_neg hnT] at hD hRd
              obtain ⟨e, he⟩ : ∃ e, ent m T ix = e := ⟨_, rfl⟩
              have hixe' : a / 2 ^ (12 + 9 * Nat.succ 0) % 512 = ix := hixe
              rw [he] at hD hRd hel
              have HR := Lib.hid hRd
              have HW := Lib.hid (fun w => rg_wrong e hel w)
              cases hb : badE e with
              | true =>
                rw [hb] at hD HW
                rw [if_pos rfl] at hD
                have hg : G = (0, 0, 2) := by rw [← hD]; rfl
                subst hg
                clear hD hstep HD hix hixe hixe' hix2 hRd he hb
                go_wp2_with fail
                ((with_reducible refine HR.out.mono ?_); rintro e wz ⟨rfl, rfl⟩)
                clear HR
                go_wp2_with fail
                ((with_reducible refine (HW.out _).mono ?_); rintro e wz ⟨rfl, rfl⟩)
                go_wp2
                go_ret3
                exact ⟨rfl, Upd.refl _ _⟩
              | false =>
                rw [hb] at hD HW
                rw [if_neg (by decide)] at hD
                have h54 : e < 18014398509481984 := by unfold badE at hb; simp at hb; omega
                have hlf10 := and10_g e hel
                cases hlf : leafE e with
                | false =>
                  rw [hlf] at hD hlf10
                  rw [if_neg (by decide)] at hD
                  have HNu := Lib.hid (fun w => rg_number e hel w)
                  have hnl := nxt_lt e
                  simp only [] at hD
                  rw [hixe', he] at hD
                  have HDN := Lib.hid hD
                  clear hD hstep HD hix hixe hixe' hix2 hRd hb hlf he
                  simp only [Bool.not_false] at hlf10
                  go_wp2_with fail
                  ((with_reducible refine HR.out.mono ?_); rintro e wz ⟨rfl, rfl⟩)
                  clear HR
                  go_wp2_with fail
                  ((with_reducible refine (HW.out _).mono ?_); rintro e wz ⟨rfl, rfl⟩)
                  clear HW
                  go_wp2_with fail
                  ((with_reducible refine (HNu.out _).mono ?_); rintro e wz ⟨rfl, rfl⟩)
                  clear HNu
                  go_wp2
                  exact ⟨⟨by first | trivial | rfl, .inl ⟨0, nxtE e, by decide, by first | trivial | rfl, by omega, by first | trivial | rfl, HDN.out⟩⟩, by simp [intOf]⟩
                | true =>
                  rw [hlf] at hD hlf10
                  rw [if_pos rfl] at hD
                  simp only [Bool.not_true] at hlf10
                  have HMi := Lib.hid (fun w => rg_misplaced e 1 hel (by decide) w)
                  cases hmi : misE e 1 with
                  | true =>
                    rw [hmi] at hD HMi
                    rw [if_pos rfl] at hD
                    have hg : G = (0, 0, 2) := by rw [← hD]; rfl
                    subst hg
                    rw [show ((1 : Nat) : Int) = 1 from rfl] at HMi
                    clear hD hstep HD hix hixe hixe' hix2 hRd hb hlf he hmi
                    go_wp2_with fail
                    ((with_reducible refine HR.out.mono ?_); rintro e wz ⟨rfl, rfl⟩)
                    clear HR
                    go_wp2_with fail
                    ((with_reducible refine (HW.out _).mono ?_); rintro e wz ⟨rfl, rfl⟩)
                    clear HW
                    go_wp2_with fail
                    ((with_reducible refine (HMi.out _).mono ?_); rintro e wz ⟨rfl, rfl⟩)
                    clear HMi
                    go_wp2
                    go_ret3
                    exact ⟨rfl, Upd.refl _ _⟩
                  | false =>
                    rw [hmi] at hD HMi
                    rw [if_neg (by decide)] at hD
                    rw [show ((1 : Nat) : Int) = 1 from rfl] at HMi
                    have HLe := Lib.hid (fun w => rg_lets e acc hel hacc w)
                    cases hle : letE e acc with
                    | false =>
                      rw [hle] at HLe
                      have hg : G = (0, 0, 2) := by rw [← hD]; unfold gOut; simp [hle]
                      subst hg
                      clear hD hstep HD hix hixe hixe' hix2 hRd hb hlf he hmi hle
                      go_wp2_with fail
                      ((with_reducible refine HR.out.mono ?_); rintro e wz ⟨rfl, rfl⟩)
                      clear HR
                      go_wp2_with fail
                      ((with_reducible refine (HW.out _).mono ?_); rintro e wz ⟨rfl, rfl⟩)
                      clear HW
                      go_wp2_with fail
                      ((with_reducible refine (HMi.out _).mono ?_); rintro e wz ⟨rfl, rfl⟩)
                      clear HMi
                      go_wp2_with fail
                      ((with_reducible refine (HLe.out _).mono ?_); rintro e wz ⟨rfl, rfl⟩)
                      clear HLe
                      go_wp2
                      go_ret3
                      exact ⟨rfl, Upd.refl _ _⟩
                    | true =>
                      rw [hle] at HLe
                      have hg : G = (plcE e 1 a, permE e, 0) := by rw [← hD]; unfold gOut; simp [hle]
                      subst hg
                      have hpu := rg_put e 1 a hel (by decide) (by omega)
                      rw [show ((1 : Nat) : Int) = 1 from rfl] at hpu
                      have HPu := Lib.hid hpu
                      obtain ⟨v4, hv4⟩ : ∃ v, (e &&& 4 == 0) = v := ⟨_, rfl⟩
                      obtain ⟨v128, hv128⟩ : ∃ v, (e &&& 128 == 0) = v := ⟨_, rfl⟩
                      obtain ⟨e4, f4⟩ := bandN e 4 hel (by decide) hv4
                      obtain ⟨e128, f128⟩ := bandN e 128 hel (by decide) hv128
                      rw [show ((4 : Nat) : Int) = 4 from rfl] at e4 f4
                      rw [show ((128 : Nat) : Int) = 128 from rfl] at e128 f128
                      have hpm := perm_u e h54 hv4 hv128
                      have h10 := i64_and_nat e 10 (by omega) (by decide)
                      have hp10 : e &&& 10 < 16 := Nat.lt_of_le_of_lt Nat.and_le_right (by decide)
                      obtain ⟨p10, hp⟩ : ∃ p, e &&& 10 = p := ⟨_, rfl⟩
                      rw [hp] at hpm h10 hp10
                      have h10o := i64_or_nat p10 4 (by omega) (by decide)
                      rw [show ((10 : Nat) : Int) = 10 from rfl] at h10
                      rw [show ((4 : Nat) : Int) = 4 from rfl] at h10o
                      obtain ⟨PM, hPM⟩ : ∃ PM, permE e = PM := ⟨_, rfl⟩
                      rw [hPM] at hpm
                      obtain ⟨PL, hPL⟩ : ∃ PL, plcE e 1 a = PL := ⟨_, rfl⟩
                      rw [hPL] at HPu
                      have HP2 := Lib.hid (And.intro hPL hPM)
                      have HPM := Lib.hid hpm
                      clear hD hstep HD hix hixe hixe' hix2 hRd hb hlf he hmi hle hv4 hv128 hp hPM hPL hpu hpm
                      rcases v4 with _ | _
                      · rcases v128 with _ | _
                        · simp only [Bool.not_false, Bool.not_true] at f4 f128
                          go_wp2_with fail
                          ((with_reducible refine HR.out.mono ?_); rintro e wz ⟨rfl, rfl⟩)
                          clear HR
                          go_wp2_with fail
                          ((with_reducible refine (HW.out _).mono ?_); rintro e wz ⟨rfl, rfl⟩)
                          clear HW
                          go_wp2_with fail
                          ((with_reducible refine (HMi.out _).mono ?_); rintro e wz ⟨rfl, rfl⟩)
                          clear HMi
                          go_wp2_with fail
                          ((with_reducible refine (HLe.out _).mono ?_); rintro e wz ⟨rfl, rfl⟩)
                          clear HLe
                          go_wp2_with fail
                          ((with_reducible refine (HPu.out _).mono ?_); rintro e w9 ⟨rfl, hU9⟩)
                          have HE := Lib.hid hU9
                          clear hU9 HPu
                          go_wp2
                          go_ret3
                          rw [HP2.out.1, HP2.out.2, HPM.out]
                          exact ⟨rfl, HE.out⟩
                        · simp only [Bool.not_false, Bool.not_true] at f4 f128
                          go_wp2_with fail
                          ((with_reducible refine HR.out.mono ?_); rintro e wz ⟨rfl, rfl⟩)
                          clear HR
                          go_wp2_with fail
                          ((with_reducible refine (HW.out _).mono ?_); rintro e wz ⟨rfl, rfl⟩)
                          clear HW
                          go_wp2_with fail
                          ((with_reducible refine (HMi.out _).mono ?_); rintro e wz ⟨rfl, rfl⟩)
                          clear HMi
                          go_wp2_with fail
                          ((with_reducible refine (HLe.out _).mono ?_); rintro e wz ⟨rfl, rfl⟩)
                          clear HLe
                          go_wp2_with fail
                          ((with_reducible refine (HPu.out _).mono ?_); rintro e w9 ⟨rfl, hU9⟩)
                          have HE := Lib.hid hU9
                          clear hU9 HPu
                          go_wp2
                          go_ret3
                          rw [HP2.out.1, HP2.out.2, HPM.out]
                          exact ⟨rfl, HE.out⟩
                      · simp only [Bool.not_true] at f4
                        clear e128 f128
                        go_wp2_with fail
                        ((with_reducible refine HR.out.mono ?_); rintro e wz ⟨rfl, rfl⟩)
                        clear HR
                        go_wp2_with fail
                        ((with_reducible refine (HW.out _).mono ?_); rintro e wz ⟨rfl, rfl⟩)
                        clear HW
                        go_wp2_with fail
                        ((with_reducible refine (HMi.out _).mono ?_); rintro e wz ⟨rfl, rfl⟩)
                        clear HMi
                        go_wp2_with fail
                        ((with_reducible refine (HLe.out _).mono ?_); rintro e wz ⟨rfl, rfl⟩)
                        clear HLe
                        go_wp2_with fail
                        ((with_reducible refine (HPu.out _).mono ?_); rintro e w9 ⟨rfl, hU9⟩)
                        have HE := Lib.hid hU9
                        clear hU9 HPu
                        go_wp2
                        go_ret3
                        rw [HP2.out.1, HP2.out.2, HPM.out]
                        exact ⟨rfl, HE.out⟩
          · have hstep := dnG_step n m a 2 T (by decide)
            rw [hstep] at hD
            obtain ⟨ix, hixe⟩ : ∃ ix, a / 2 ^ (12 + 9 * 2) % 512 = ix := ⟨_, rfl⟩
            rw [hixe] at hD
            have hix : ix < 512 := by rw [← hixe]; exact Nat.mod_lt _ (by decide)
            have hix2 : a / 1073741824 % 512 = ix := hixe
            have hq : (a : Int) / 1073741824 % 512 = (ix : Int) := by omega
            have hRd := mref_Read HM.out.1 ((T : Int) * 4096 + (ix : Int) * 8) 8 (by omega) (by omega) (by decide) (by decide)
            rw [rd_ent HM.out.2 T ix hix hn2 _ (by omega)] at hRd
            have hel := ent_lt HM.out.2 T ix
            rw [show ((2 : Nat) : Int) = 2 from rfl]
            by_cases hnT : n ≤ T
            · rw [if_pos hnT] at hD hRd
              have hg : G = (0, 0, 3) := by rw [← hD]; rfl
              subst hg
              have HR := Lib.hid hRd
              clear hD hstep HD hix hixe hix2 hRd hel
              go_wp2_with fail
              ((with_reducible refine HR.out.mono ?_); rintro e wz ⟨rfl, rfl⟩)
              clear HR
              go_wp2
              go_ret3
              exact ⟨rfl, Upd.refl _ _⟩
            · rw [if_neg hnT] at hD hRd
              obtain ⟨e, he⟩ : ∃ e, ent m T ix = e := ⟨_, rfl⟩
              have hixe' : a / 2 ^ (12 + 9 * Nat.succ 1) % 512 = ix := hixe
              rw [he] at hD hRd hel
              have HR := Lib.hid hRd
              have HW := Lib.hid (fun w => rg_wrong e hel w)
              cases hb : badE e with
              | true =>
                rw [hb] at hD HW
                rw [if_pos rfl] at hD
                have hg : G = (0, 0, 2) := by rw [← hD]; rfl
                subst hg
                clear hD hstep HD hix hixe hixe' hix2 hRd he hb
                go_wp2_with fail
                ((with_reducible refine HR.out.mono ?_); rintro e wz ⟨rfl, rfl⟩)
                clear HR
                go_wp2_with fail
                ((with_reducible refine (HW.out _).mono ?_); rintro e wz ⟨rfl, rfl⟩)
                go_wp2
                go_ret3
                exact ⟨rfl, Upd.refl _ _⟩
              | false =>
                rw [hb] at hD HW
                rw [if_neg (by decide)] at hD
                have h54 : e < 18014398509481984 := by unfold badE at hb; simp at hb; omega
                have hlf10 := and10_g e hel
                cases hlf : leafE e with
                | false =>
                  rw [hlf] at hD hlf10
                  rw [if_neg (by decide)] at hD
                  have HNu := Lib.hid (fun w => rg_number e hel w)
                  have hnl := nxt_lt e
                  simp only [] at hD
                  rw [hixe', he] at hD
                  have HDN := Lib.hid hD
                  clear hD hstep HD hix hixe hixe' hix2 hRd hb hlf he
                  simp only [Bool.not_false] at hlf10
                  go_wp2_with fail
                  ((with_reducible refine HR.out.mono ?_); rintro e wz ⟨rfl, rfl⟩)
                  clear HR
                  go_wp2_with fail
                  ((with_reducible refine (HW.out _).mono ?_); rintro e wz ⟨rfl, rfl⟩)
                  clear HW
                  go_wp2_with fail
                  ((with_reducible refine (HNu.out _).mono ?_); rintro e wz ⟨rfl, rfl⟩)
                  clear HNu
                  go_wp2
                  exact ⟨⟨by first | trivial | rfl, .inl ⟨1, nxtE e, by decide, by first | trivial | rfl, by omega, by first | trivial | rfl, HDN.out⟩⟩, by simp [intOf]⟩
                | true =>
                  rw [hlf] at hD hlf10
                  rw [if_pos rfl] at hD
                  simp only [Bool.not_true] at hlf10
                  have HMi := Lib.hid (fun w => rg_misplaced e 2 hel (by decide) w)
                  cases hmi : misE e 2 with
                  | true =>
                    rw [hmi] at hD HMi
                    rw [if_pos rfl] at hD
                    have hg : G = (0, 0, 2) := by rw [← hD]; rfl
                    subst hg
                    rw [show ((2 : Nat) : Int) = 2 from rfl] at HMi
                    clear hD hstep HD hix hixe hixe' hix2 hRd hb hlf he hmi
                    go_wp2_with fail
                    ((with_reducible refine HR.out.mono ?_); rintro e wz ⟨rfl, rfl⟩)
                    clear HR
                    go_wp2_with fail
                    ((with_reducible refine (HW.out _).mono ?_); rintro e wz ⟨rfl, rfl⟩)
                    clear HW
                    go_wp2_with fail
                    ((with_reducible refine (HMi.out _).mono ?_); rintro e wz ⟨rfl, rfl⟩)
                    clear HMi
                    go_wp2
                    go_ret3
                    exact ⟨rfl, Upd.refl _ _⟩
                  | false =>
                    rw [hmi] at hD HMi
                    rw [if_neg (by decide)] at hD
                    rw [show ((2 : Nat) : Int) = 2 from rfl] at HMi
                    have HLe := Lib.hid (fun w => rg_lets e acc hel hacc w)
                    cases hle : letE e acc with
                    | false =>
                      rw [hle] at HLe
                      have hg : G = (0, 0, 2) := by rw [← hD]; unfold gOut; simp [hle]
                      subst hg
                      clear hD hstep HD hix hixe hixe' hix2 hRd hb hlf he hmi hle
                      go_wp2_with fail
                      ((with_reducible refine HR.out.mono ?_); rintro e wz ⟨rfl, rfl⟩)
                      clear HR
                      go_wp2_with fail
                      ((with_reducible refine (HW.out _).mono ?_); rintro e wz ⟨rfl, rfl⟩)
                      clear HW
                      go_wp2_with fail
                      ((with_reducible refine (HMi.out _).mono ?_); rintro e wz ⟨rfl, rfl⟩)
                      clear HMi
                      go_wp2_with fail
                      ((with_reducible refine (HLe.out _).mono ?_); rintro e wz ⟨rfl, rfl⟩)
                      clear HLe
                      go_wp2
                      go_ret3
                      exact ⟨rfl, Upd.refl _ _⟩
                    | true =>
                      rw [hle] at HLe
                      have hg : G = (plcE e 2 a, permE e, 0) := by rw [← hD]; unfold gOut; simp [hle]
                      subst hg
                      have hpu := rg_put e 2 a hel (by decide) (by omega)
                      rw [show ((2 : Nat) : Int) = 2 from rfl] at hpu
                      have HPu := Lib.hid hpu
                      obtain ⟨v4, hv4⟩ : ∃ v, (e &&& 4 == 0) = v := ⟨_, rfl⟩
                      obtain ⟨v128, hv128⟩ : ∃ v, (e &&& 128 == 0) = v := ⟨_, rfl⟩
                      obtain ⟨e4, f4⟩ := bandN e 4 hel (by decide) hv4
                      obtain ⟨e128, f128⟩ := bandN e 128 hel (by decide) hv128
                      rw [show ((4 : Nat) : Int) = 4 from rfl] at e4 f4
                      rw [show ((128 : Nat) : Int) = 128 from rfl] at e128 f128
                      have hpm := perm_u e h54 hv4 hv128
                      have h10 := i64_and_nat e 10 (by omega) (by decide)
                      have hp10 : e &&& 10 < 16 := Nat.lt_of_le_of_lt Nat.and_le_right (by decide)
                      obtain ⟨p10, hp⟩ : ∃ p, e &&& 10 = p := ⟨_, rfl⟩
                      rw [hp] at hpm h10 hp10
                      have h10o := i64_or_nat p10 4 (by omega) (by decide)
                      rw [show ((10 : Nat) : Int) = 10 from rfl] at h10
                      rw [show ((4 : Nat) : Int) = 4 from rfl] at h10o
                      obtain ⟨PM, hPM⟩ : ∃ PM, permE e = PM := ⟨_, rfl⟩
                      rw [hPM] at hpm
                      obtain ⟨PL, hPL⟩ : ∃ PL, plcE e 2 a = PL := ⟨_, rfl⟩
                      rw [hPL] at HPu
                      have HP2 := Lib.hid (And.intro hPL hPM)
                      have HPM := Lib.hid hpm
                      clear hD hstep HD hix hixe hixe' hix2 hRd hb hlf he hmi hle hv4 hv128 hp hPM hPL hpu hpm
                      rcases v4 with _ | _
                      · rcases v128 with _ | _
                        · simp only [Bool.not_false, Bool.not_true] at f4 f128
                          go_wp2_with fail
                          ((with_reducible refine HR.out.mono ?_); rintro e wz ⟨rfl, rfl⟩)
                          clear HR
                          go_wp2_with fail
                          ((with_reducible refine (HW.out _).mono ?_); rintro e wz ⟨rfl, rfl⟩)
                          clear HW
                          go_wp2_with fail
                          ((with_reducible refine (HMi.out _).mono ?_); rintro e wz ⟨rfl, rfl⟩)
                          clear HMi
                          go_wp2_with fail
                          ((with_reducible refine (HLe.out _).mono ?_); rintro e wz ⟨rfl, rfl⟩)
                          clear HLe
                          go_wp2_with fail
                          ((with_reducible refine (HPu.out _).mono ?_); rintro e w9 ⟨rfl, hU9⟩)
                          have HE := Lib.hid hU9
                          clear hU9 HPu
                          go_wp2
                          go_ret3
                          rw [HP2.out.1, HP2.out.2, HPM.out]
                          exact ⟨rfl, HE.out⟩
                        · simp only [Bool.not_false, Bool.not_true] at f4 f128
                          go_wp2_with fail
                          ((with_reducible refine HR.out.mono ?_); rintro e wz ⟨rfl, rfl⟩)
                          clear HR
                          go_wp2_with fail
                          ((with_reducible refine (HW.out _).mono ?_); rintro e wz ⟨rfl, rfl⟩)
                          clear HW
                          go_wp2_with fail
                          ((with_reducible refine (HMi.out _).mono ?_); rintro e wz ⟨rfl, rfl⟩)
                          clear HMi
                          go_wp2_with fail
                          ((with_reducible refine (HLe.out _).mono ?_); rintro e wz ⟨rfl, rfl⟩)
                          clear HLe
                          go_wp2_with fail
                          ((with_reducible refine (HPu.out _).mono ?_); rintro e w9 ⟨rfl, hU9⟩)
                          have HE := Lib.hid hU9
                          clear hU9 HPu
                          go_wp2
                          go_ret3
                          rw [HP2.out.1, HP2.out.2, HPM.out]
                          exact ⟨rfl, HE.out⟩
                      · simp only [Bool.not_true] at f4
                        clear e128 f128
                        go_wp2_with fail
                        ((with_reducible refine HR.out.mono ?_); rintro e wz ⟨rfl, rfl⟩)
                        clear HR
                        go_wp2_with fail
                        ((with_reducible refine (HW.out _).mono ?_); rintro e wz ⟨rfl, rfl⟩)
                        clear HW
                        go_wp2_with fail
                        ((with_reducible refine (HMi.out _).mono ?_); rintro e wz ⟨rfl, rfl⟩)
                        clear HMi
                        go_wp2_with fail
                        ((with_reducible refine (HLe.out _).mono ?_); rintro e wz ⟨rfl, rfl⟩)
                        clear HLe
                        go_wp2_with fail
                        ((with_reducible refine (HPu.out _).mono ?_); rintro e w9 ⟨rfl, hU9⟩)
                        have HE := Lib.hid hU9
                        clear hU9 HPu
                        go_wp2
                        go_ret3
                        rw [HP2.out.1, HP2.out.2, HPM.out]
                        exact ⟨rfl, HE.out⟩
      · go_wp2
        go_ret3
        exact ⟨rfl, Upd.refl _ _⟩
end Go.Proofs.Ytlgcplekcmocbaa
