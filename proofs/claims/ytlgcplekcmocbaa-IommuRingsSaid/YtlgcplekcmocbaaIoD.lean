import Derived.Test.YtlgcplekcmocbaaIoB
/- IommuRings: the walk. -/
namespace Go.Proofs.Ytlgcplekcmocbaa
set_option linter.unusedVariables false
set_option linter.unusedSimpArgs false
open Go.RowKit
set_option maxRecDepth 100000

theorem fl_push (A : List (Nat × Nat × Nat)) (R d j : Nat) (hA : A.length + R = 255) : pushL (A ++ fl d (min j R)) (d, 1, 8 * j) = A ++ fl d (min (j + 1) R) ∧ pushO (A ++ fl d (min j R)) (decide (R < j)) = decide (R < j + 1) := by
  unfold pushL pushO
  rw [List.length_append, fl_len]
  by_cases h : j < R
  · rw [if_pos (by omega), if_pos (by omega), show min j R = j from by omega, show min (j + 1) R = j + 1 from by omega, fl_succ, List.append_assoc]
    exact ⟨rfl, by simp; omega⟩
  · rw [if_neg (by omega), if_neg (by omega), show min j R = R from by omega, show min (j + 1) R = R from by omega]
    exact ⟨rfl, by simp; omega⟩
theorem kind8 (j : Nat) : kindN 8 (8 * j) = 1 := kindN_ok rfl (by show 8 * j % 8 = 0; omega)
/-- the access of a law's device: the next in a row of them -/
theorem RB.acc8 {w0 w : World} {own : Nat → Nat} {p q rp tp p2 xo : Nat} {s : Us} {m : Nat → Int} {A : List (Nat × Nat × Nat)} {R d j : Nat} (h : RB w0 own w p q rp tp p2 xo s m) (hA : A.length + R = 255) (hq : QS 8 s m (A ++ fl d (min j R)) (decide (R < j))) (hr : s.rt = fun _ => 0) (hd : d < 8) (hj : j < 1000) (wr : Bool) :
    Calls Try.prog 19 #[.pointer (some ⟨p, 0, none⟩), .int .i64 (d : Int), .int .u64 (8 * (j : Int)), .int .i64 8, .bool wr] w fun e w' => e = .returned (.tuple #[.int .u64 0, .bool false]) ∧
      ∃ own' s' m', RB w0 own' w' p q rp tp p2 xo s' m' ∧ QS 8 s' m' (A ++ fl d (min (j + 1) R)) (decide (R < j + 1)) ∧ s'.rt = fun _ => 0 := by
  have h1 := h.acc hq d (8 * j) hd (by rw [hr]) (by omega) 8 (by decide) (by decide) wr
  rw [kind8, (fl_push A R d j hA).1, (fl_push A R d j hA).2, hr] at h1
  exact h1
set_option maxHeartbeats 8000000 in
theorem rings_calls (n tell more : Int) (hn : -9223372036854775808 ≤ n ∧ n ≤ 9223372036854775807) (ht : -9223372036854775808 ≤ tell ∧ tell ≤ 9223372036854775807) (hm : -9223372036854775808 ≤ more ∧ more ≤ 9223372036854775807) (w : World) :
    Calls Try.prog 6 #[.int .i64 n, .int .i64 tell, .int .i64 more] w fun e w' => e = .returned (.bool true) ∧ Upd (fun _ => False) w w' := by
  obtain ⟨a, ha⟩ : ∃ a : Nat, n % 300 = (a : Int) := ⟨(n % 300).toNat, by omega⟩
  have ha3 : a < 300 := by omega
  obtain ⟨K, hK⟩ : ∃ K : Nat, K = min a 255 := ⟨_, rfl⟩
  have hK2 : K ≤ a ∧ K ≤ 255 := by omega
  obtain ⟨t, htt⟩ : ∃ t : Nat, tell % ((K : Int) + 1) = (t : Int) := ⟨(tell % ((K : Int) + 1)).toNat, by have := Int.emod_nonneg tell (b := (K : Int) + 1) (by omega); omega⟩
  have htK : t ≤ K := by have := Int.emod_lt_of_pos tell (b := (K : Int) + 1) (by omega); omega
  obtain ⟨b, hb⟩ : ∃ b : Nat, more % 40 = (b : Int) := ⟨(more % 40).toNat, by omega⟩
  have hb4 : b < 40 := by omega
  have P1 := fun w => place_calls n 300 w hn.1 hn.2 (by decide) (by decide)
  rw [ha] at P1
  have P2 := fun w => place_calls tell ((K : Int) + 1) w ht.1 ht.2 (by omega) (by omega)
  rw [htt] at P2
  have P3 := fun w => place_calls more 40 w hm.1 hm.2 (by decide) (by decide)
  rw [hb] at P3
  have HP1 := Lib.hid P1
  have HP2 := Lib.hid P2
  have HP3 := Lib.hid P3
  have hN := law07_New (fun _ => 0) 1 2 3 4 5 2 (by decide) w (by decide) (by decide)
  rw [show ((2 : Nat) : Int) = 2 from rfl] at hN
  have HN := Lib.hid hN
  have HK := Lib.hid hK
  clear hN P1 P2 P3 ha htt hb hn ht hm hK
  go_enter Try.func6, Try.ntmps6
  go_wp2_with fail
  ((with_reducible refine HN.out.mono ?_); rintro e w1 ⟨p, q, rp, tp, p2, own1, rfl, hS1, hU1, hM1, hT1⟩)
  have hS2 : Step (fun _ => False) own1 w1 (ext own1 w1 9) (w1.alloc (.cells #[.pointer (some ⟨p, 0, none⟩), .pointer (some ⟨q, 0, none⟩), .pointer (some ⟨rp, 0, none⟩), .pointer (some ⟨p2, 0, none⟩)] 31)) := ⟨(Upd.refl _ _).alloc _, fun b hb => ext_old _ _ _ hb⟩
  have hR := io_Ring (hU1.step hS2 (fun h => h)) (hM1.step hS2 (fun h => h)) 0 (by decide) (by decide)
  rw [show ((0 : Nat) : Int) = 0 from rfl] at hR
  have HR := Lib.hid hR
  have H1 := Lib.hid (And.intro ((hS1.trans hS2).mono (C' := (· = 1)) (fun _ h => h.elim)) (And.intro (hM1.step hS2 (fun h => h)) (And.intro (Blk.new w1 31 #[.pointer (some ⟨p, 0, none⟩), .pointer (some ⟨q, 0, none⟩), .pointer (some ⟨rp, 0, none⟩), .pointer (some ⟨p2, 0, none⟩)]) (show ext own1 w1 9 w1.heap.size = 9 from ext_new _ _ _ (Nat.le_refl _)))))
  clear hS1 hU1 hM1 hT1 hS2 hR HN
  go_wp2_with fail
  ((with_reducible refine HR.out.mono ?_); rintro e w2 ⟨rfl, hS2, hU2⟩)
  obtain ⟨k1, k2⟩ := hS2.blk H1.out.2.2.1 H1.out.2.2.2 (by decide)
  have hM2 := H1.out.2.1.step hS2 (by decide)
  have hlo := k1.lt
  have H2 := Lib.hid (And.intro (show RB w (ext own1 w1 9) w2 p q rp tp p2 w1.heap.size (usRg us0 0) (fun _ => 0) from ⟨(H1.out.1.trans hS2).mono (fun x h => Or.inl h), hU2, hM2, k1, k2⟩) (QS.new (fun _ => 0) (UsOk.init 8) 0 (by decide) (by decide) (by decide) false rfl))
  clear hS2 hU2 k1 k2 hM2 H1 HR
  generalize w1.heap.size = xo at *
  go_wp2_with fail
  ((with_reducible refine (HP1.out _).mono ?_); rintro e wz ⟨rfl, rfl⟩)
  clear HP1
  go_wp2
  go_loopw [10] (fun i wr => ∃ (j : Nat), j ≤ a ∧ i = .int .i64 (j : Int) ∧ Hid (∃ own' s m, RB w own' wr p q rp tp p2 xo s m ∧ QS 8 s m ([] ++ fl 1 (min j 255)) (decide (255 < j)) ∧ s.rt = fun _ => 0)) (fun i _ => a - (intOf i).toNat)
  case atStart => exact ⟨0, by omega, rfl, _, _, _, H2.out.1, H2.out.2, rfl⟩
  case round =>
    rename World => wr
    obtain ⟨j, hj, rfl, HL⟩ := hrel
    clear H2
    obtain ⟨own3, s, m, hB, hQ, hrt⟩ := HL.out
    obtain ⟨o0, ol⟩ := hB.cell
    by_cases hlt : j < a
    · have HA := Lib.hid (hB.acc8 (A := []) (by rfl) hQ hrt (by decide) (by omega) false)
      clear hB hQ hrt HL
      rw [show ((1 : Nat) : Int) = 1 from rfl] at HA
      go_wp2_with fail
      ((with_reducible refine HA.out.mono ?_); rintro e w4 ⟨rfl, h4⟩)
      have H4 := Lib.hid h4
      clear h4 HA
      go_wp2
      exact ⟨⟨j + 1, by omega, by go_num, H4.out⟩, by simp [intOf]; omega⟩
    · obtain rfl : j = a := by omega
      have H3 := Lib.hid (And.intro hB (And.intro hQ hrt))
      clear hB hQ hrt HL
      go_upto_if 60 with fail
      go_cut [11] (fun s11 wx => s11 = .int .i64 (K : Int) ∧ wr = wx)
      case first =>
        by_cases hc : 255 < j
        · have hcd : decide ((255 : Int) < (j : Int)) = true := by simp; omega
          obtain rfl : K = 255 := by have := HK.out; omega
          go_wp2
          go_meet
          exact ⟨rfl, rfl⟩
        · have hcd : decide ((255 : Int) < (j : Int)) = false := by simp; omega
          obtain rfl : K = j := by have := HK.out; omega
          go_wp2
          go_meet
          exact ⟨rfl, rfl⟩
      case rest =>
        obtain ⟨rfl, rfl⟩ := hcut
        obtain ⟨hB, hQ, hrt⟩ := H3.out
        have hfl : ([] : List (Nat × Nat × Nat)) ++ fl 1 (min j 255) = (fl 1 K).drop 0 := by rw [List.nil_append, ← HK.out]; rfl
        have hov : decide (255 < j) = decide (K < j) := by have := HK.out; congr 1; simp; omega
        rw [hfl, hov] at hQ
        have H4 := Lib.hid (And.intro hB (And.intro hQ hrt))
        clear hB hQ hrt hfl hov H3 HK
        go_wp2_with fail
        ((with_reducible refine (HP2.out _).mono ?_); rintro e wz ⟨rfl, rfl⟩)
        clear HP2
        go_wp2
        go_loopw [13] (fun i wr => ∃ (k : Nat), k ≤ t ∧ i = .int .i64 (k : Int) ∧ Hid (∃ own' s m, RB w own' wr p q rp tp p2 xo s m ∧ QS 8 s m ((fl 1 K).drop k) (decide (K < j)) ∧ s.rt = fun _ => 0)) (fun i _ => t - (intOf i).toNat)
        case atStart => exact ⟨0, by omega, rfl, _, _, _, H4.out⟩
        case round =>
          rename World => wr
          obtain ⟨k, hk, rfl, HL⟩ := hrel
          clear H4 o0 ol
          obtain ⟨own4, s4, m4, hB, hQ, hrt⟩ := HL.out
          obtain ⟨o0, ol⟩ := hB.cell
          by_cases hlt : k < t
          · rw [fl_drop 1 K k (by omega)] at hQ
            have hX := hB.next hQ
            rw [show ((1 : Nat) : Int) = 1 from rfl, show ((8 * k : Nat) : Int) = 8 * (k : Int) from by omega, hrt] at hX
            have HX := Lib.hid hX
            clear hB hQ hrt HL hX
            go_wp2_with fail
            ((with_reducible refine HX.out.mono ?_); rintro e w4 ⟨rfl, own5, s5, hB5, hQ5, hrt5⟩)
            have H5 := Lib.hid (And.intro (hB5.alloc (.cells #[.int .i64 1, .int .i64 1, .int .u64 (8 * (k : Int))] 43)) (And.intro hQ5 hrt5))
            clear HX hB5 hQ5 hrt5
            go_wp2
            exact ⟨⟨k + 1, by omega, by go_num, _, _, _, H5.out⟩, by simp [intOf]; omega⟩
          · obtain rfl : k = t := by omega
            have HO := Lib.hid hB.over
            have HC := Lib.hid (hB.clear hQ)
            have hov : s4.ov = decide (K < j) := hQ.ovf
            have hovd : decide (K < j) = s4.ov := hov.symm
            generalize s4.ov = ov at *
            have HRT := Lib.hid hrt
            clear hB hQ hrt HL hov
            go_wp2_with fail
            ((with_reducible refine HO.out.mono ?_); rintro e wz ⟨rfl, rfl⟩)
            clear HO
            go_upto_if 92 with fail
            go_cut [] (fun wx => wr = wx)
            case first =>
              rcases ov with _ | _
              · go_wp2
                go_meet
                rfl
              · go_wp2
                go_meet
                rfl
            case rest =>
            obtain rfl := hcut
            go_wp2_with fail
            ((with_reducible refine HC.out.mono ?_); rintro e w5 ⟨rfl, own5, s5, hB5, hQ5, hrt5⟩)
            obtain ⟨q0, ql⟩ := hB5.cell
            have H5 := Lib.hid (And.intro hB5 (And.intro hQ5 (hrt5.trans HRT.out)))
            clear HC hB5 hQ5 hrt5 HRT hovd o0 ol
            go_wp2_with fail
            ((with_reducible refine (HP3.out _).mono ?_); rintro e wz ⟨rfl, rfl⟩)
            clear HP3
            go_wp2
            go_loopw [17] (fun i wr => ∃ (j : Nat), j ≤ b ∧ i = .int .i64 (j : Int) ∧ Hid (∃ own' s m, RB w own' wr p q rp tp p2 xo s m ∧ QS 8 s m ((fl 1 K).drop k ++ fl 2 (min j (255 - (K - k)))) (decide (255 - (K - k) < j)) ∧ s.rt = fun _ => 0)) (fun i _ => b - (intOf i).toNat)
            case atStart => exact ⟨0, by omega, rfl, _, _, _, H5.out.1, by rw [show fl 2 (min 0 (255 - (K - k))) = [] from by rw [Nat.zero_min]; rfl, List.append_nil, show decide (255 - (K - k) < 0) = false from by simp]; exact H5.out.2.1, H5.out.2.2⟩
            case round =>
              rename World => wr
              obtain ⟨i, hi, rfl, HL⟩ := hrel
              clear H5 q0 ql
              obtain ⟨own6, s6, m6, hB, hQ, hrt⟩ := HL.out
              obtain ⟨o0, ol⟩ := hB.cell
              by_cases hlt : i < b
              · have HA := Lib.hid (hB.acc8 (by rw [List.length_drop, fl_len]; omega) hQ hrt (by decide) (by omega) true)
                clear hB hQ hrt HL
                rw [show ((2 : Nat) : Int) = 2 from rfl] at HA
                go_wp2_with fail
                ((with_reducible refine HA.out.mono ?_); rintro e w7 ⟨rfl, h7⟩)
                have H7 := Lib.hid h7
                clear h7 HA
                go_wp2
                exact ⟨⟨i + 1, by omega, by go_num, H7.out⟩, by simp [intOf]; omega⟩
              · obtain rfl : i = b := by omega
                obtain ⟨F, hF⟩ : ∃ F, F = min i (255 - (K - k)) := ⟨_, rfl⟩
                have hF2 : F ≤ i := by omega
                rw [← hF] at hQ
                have hov : s6.ov = decide (F < i) := by rw [hQ.ovf]; congr 1; simp; omega
                have HF := Lib.hid hF
                have H7 := Lib.hid (And.intro hB (And.intro hQ (And.intro hrt hov)))
                clear hB hQ hrt HL hov hF
                go_upto_if 116 with fail
                go_cut [19] (fun s19 wx => s19 = .int .i64 (F : Int) ∧ wr = wx)
                case first =>
                  by_cases hc : 255 - (K - k) < i
                  · have hcd : decide ((255 : Int) - ((K : Int) - (k : Int)) < (i : Int)) = true := by simp; omega
                    obtain rfl : F = 255 - (K - k) := by have := HF.out; omega
                    have hce : (255 : Int) - ((K : Int) - (k : Int)) = ((255 - (K - k) : Nat) : Int) := by omega
                    go_wp2
                    go_meet
                    exact ⟨by rw [hce], rfl⟩
                  · have hcd : decide ((255 : Int) - ((K : Int) - (k : Int)) < (i : Int)) = false := by simp; omega
                    obtain rfl : F = i := by have := HF.out; omega
                    go_wp2
                    go_meet
                    exact ⟨rfl, rfl⟩
                case rest =>
                  obtain ⟨rfl, rfl⟩ := hcut
                  clear HF
                  go_wp2
                  go_loopw [20] (fun i wr => ∃ (x : Nat), x ≤ K ∧ i = .int .i64 (x : Int) ∧ Hid (∃ own' s m, RB w own' wr p q rp tp p2 xo s m ∧ QS 8 s m ((fl 1 K).drop x ++ fl 2 F) s6.ov)) (fun i _ => K - (intOf i).toNat)
                  case atStart => exact ⟨k, by omega, rfl, _, _, _, H7.out.1, by have := H7.out.2.1; rw [← this.ovf] at this; exact this⟩
                  case round =>
                    rename World => wr
                    obtain ⟨x, hx, rfl, HL⟩ := hrel
                    clear o0 ol
                    obtain ⟨own8, s8, m8, hB, hQ⟩ := HL.out
                    obtain ⟨o0, ol⟩ := hB.cell
                    by_cases hlt : x < K
                    · rw [fl_drop 1 K x hlt, List.cons_append] at hQ
                      have hX := hB.next hQ
                      rw [show ((1 : Nat) : Int) = 1 from rfl, show ((8 * x : Nat) : Int) = 8 * (x : Int) from by omega] at hX
                      have HX := Lib.hid hX
                      clear hB hQ HL hX
                      go_wp2_with fail
                      ((with_reducible refine HX.out.mono ?_); rintro e w9 ⟨rfl, own9, s9, hB9, hQ9, hrt9⟩)
                      have H9 := Lib.hid (And.intro (hB9.alloc (.cells #[.int .i64 1, .int .i64 1, .int .u64 (8 * (x : Int))] 43)) hQ9)
                      clear HX hB9 hQ9 hrt9
                      go_wp2
                      exact ⟨⟨x + 1, by omega, by go_num, _, _, _, H9.out⟩, by simp [intOf]; omega⟩
                    · obtain rfl : x = K := by omega
                      rw [fl_done, List.nil_append] at hQ
                      have H9 := Lib.hid (And.intro hB hQ)
                      clear hB hQ HL
                      go_wp2
                      go_loopw [23] (fun i wr => ∃ (y : Nat), y ≤ F ∧ i = .int .i64 (y : Int) ∧ Hid (∃ own' s m, RB w own' wr p q rp tp p2 xo s m ∧ QS 8 s m ((fl 2 F).drop y) s6.ov)) (fun i _ => F - (intOf i).toNat)
                      case atStart => exact ⟨0, by omega, rfl, _, _, _, H9.out⟩
                      case round =>
                        rename World => wr
                        obtain ⟨y, hy, rfl, HL⟩ := hrel
                        clear o0 ol H9
                        obtain ⟨own10, s10, m10, hB, hQ⟩ := HL.out
                        obtain ⟨o0, ol⟩ := hB.cell
                        by_cases hlt : y < F
                        · rw [fl_drop 2 F y hlt] at hQ
                          have hX := hB.next hQ
                          rw [show ((1 : Nat) : Int) = 1 from rfl, show ((2 : Nat) : Int) = 2 from rfl, show ((8 * y : Nat) : Int) = 8 * (y : Int) from by omega] at hX
                          have HX := Lib.hid hX
                          clear hB hQ HL hX
                          go_wp2_with fail
                          ((with_reducible refine HX.out.mono ?_); rintro e w11 ⟨rfl, own11, s11, hB11, hQ11, hrt11⟩)
                          have H11 := Lib.hid (And.intro (hB11.alloc (.cells #[.int .i64 2, .int .i64 1, .int .u64 (8 * (y : Int))] 43)) hQ11)
                          clear HX hB11 hQ11 hrt11
                          go_wp2
                          exact ⟨⟨y + 1, by omega, by go_num, _, _, _, H11.out⟩, by simp [intOf]; omega⟩
                        · obtain rfl : y = F := by omega
                          rw [fl_done] at hQ
                          have HX := Lib.hid (hB.none_ hQ.none_)
                          have hov : s10.ov = s6.ov := hQ.ovf
                          have hov6 := H7.out.2.2.2
                          clear hB hQ HL H7
                          go_wp2_with fail
                          ((with_reducible refine HX.out.mono ?_); rintro e w12 ⟨rfl, own12, hB12⟩)
                          have hB13 := hB12.alloc (.cells #[.int .i64 0, .int .i64 0, .int .u64 0] 43)
                          have HO := Lib.hid hB13.over
                          obtain ⟨q0, ql⟩ := hB12.cell
                          have H13 := Lib.hid hB13.upd
                          have hovd : decide (y < i) = s10.ov := by rw [hov, hov6]
                          generalize s10.ov = ov at *
                          clear HX hB12 hB13 hov hov6 o0 ol
                          go_wp2_with fail
                          ((with_reducible refine HO.out.mono ?_); rintro e wz ⟨rfl, rfl⟩)
                          clear HO
                          rcases ov with _ | _
                          all_goals
                            go_wp2_with fail
                            ((with_reducible refine (awake07 _).mono ?_); rintro e w13 ⟨rfl, hU13⟩)
                            have HE := Lib.hid (H13.out.trans' hU13 (fun _ _ e => e))
                            clear hU13 H13
                            go_wp2
                            go_ret
                            exact ⟨rfl, HE.out⟩
end Go.Proofs.Ytlgcplekcmocbaa
