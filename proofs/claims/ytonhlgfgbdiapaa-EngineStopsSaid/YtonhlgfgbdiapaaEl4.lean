import Derived.Test.YtonhlgfgbdiapaaEg9
/- EngineStops: the walk. -/
namespace Go.Proofs.Ytonhlgfgbdiapaa
set_option linter.unusedVariables false
set_option linter.unusedSimpArgs false
open Go.RowKit
set_option maxRecDepth 100000
theorem readE_8 (s : Eg) : readE s 8 8 = s.rg 8 := by simp [readE, fitsE, regE]
theorem readE_16 (s : Eg) : readE s 16 8 = s.rg 16 := by simp [readE, fitsE, regE]
theorem fit_stop {k j : Nat} (hk : k ≤ 816) (hj : 8 * j < k) (hk8 : k % 8 = 0) : fitJ 0 4 0 8192 j = true := by
  unfold fitJ
  rw [Bool.and_eq_true, hasR_iff, hasR_iff]
  omega
set_option maxHeartbeats 4000000 in
theorem stops_calls (w : World) (x1 x2 : Int) (off : Nat) (size : Int) (v : Nat) (h1 : -9223372036854775808 ≤ x1 ∧ x1 ≤ 9223372036854775807) (h2 : -9223372036854775808 ≤ x2 ∧ x2 ≤ 9223372036854775807) (hoff : off < 18446744073709551616) (hz : -9223372036854775808 ≤ size ∧ size ≤ 9223372036854775807) (hv : v < 18446744073709551616) :
    Calls Try.prog 6 #[.int .i64 x1, .int .i64 x2, .int .u64 (off : Int), .int .i64 size, .int .u64 (v : Int)] w fun x w' => x = .returned (.bool true) ∧ Upd (fun _ => False) w w' := by
  have hB0 := Blk.new w 47 #[.int .i64 0, .int .u64 7, .int .i64 1, .int .u64 8, .int .i64 2, .int .u64 9]
  have hC : CellsAt (w.alloc (.cells #[.int .i64 0, .int .u64 7, .int .i64 1, .int .u64 8, .int .i64 2, .int .u64 9] 47)) (.slice (some ⟨w.heap.size, 0, none⟩) 3 3) [(0, 7), (1, 8), (2, 9)] := by
    refine ⟨_, 3, rfl, fun _ => ⟨w.heap.size, 0, rfl, hB0.lt, fun k x hx => ?_⟩⟩
    have hk : k < 3 := by
      rcases Nat.lt_or_ge k 3 with h | h
      · exact h
      · rw [List.getElem?_eq_none (by simp; omega)] at hx; cases hx
    rcases (show k = 0 ∨ k = 1 ∨ k = 2 by omega) with rfl | rfl | rfl
    · cases hx; exact ⟨hB0.cell 0, hB0.cell 1⟩
    · cases hx; exact ⟨hB0.cell 2, hB0.cell 3⟩
    · cases hx; exact ⟨hB0.cell 4, hB0.cell 5⟩
  have HM := Lib.hid (flat08 _ _ _ hC (by decide) (by intro x hx; simp at hx; rcases hx with rfl | rfl | rfl <;> decide))
  have HU0 := Lib.hid ((Upd.refl (fun _ => False) w).alloc (.cells #[.int .i64 0, .int .u64 7, .int .i64 1, .int .u64 8, .int .i64 2, .int .u64 9] 47))
  obtain ⟨q1, hq1⟩ : ∃ q : Nat, x1 % 100 = (q : Int) := ⟨(x1 % 100).toNat, by omega⟩
  have hl1 : q1 < 100 := by omega
  have P1 := fun w => place_calls x1 100 w h1.1 h1.2 (by decide) (by decide)
  rw [hq1] at P1
  have HP1 := Lib.hid P1
  obtain ⟨n, hN⟩ : ∃ n, 3 + q1 = n := ⟨_, rfl⟩
  have hNI : 3 + (q1 : Int) = (n : Int) := by omega
  obtain ⟨k, hK⟩ : ∃ k, 8 * n = k := ⟨_, rfl⟩
  have hKI : 8 * (n : Int) = (k : Int) := by omega
  have hn : 3 ≤ n ∧ n ≤ 102 := by omega
  obtain ⟨d, hd⟩ : ∃ d : Nat, x2 % (n : Int) = (d : Int) := ⟨(x2 % (n : Int)).toNat, by have := Int.emod_nonneg x2 (show (n : Int) ≠ 0 by omega); omega⟩
  have hdn : d < n := by have := Int.emod_lt_of_pos x2 (show (0 : Int) < (n : Int) by omega); omega
  have P2 := fun w => place_calls x2 (n : Int) w h2.1 h2.2 (by omega) (by omega)
  rw [hd] at P2
  have HP2 := Lib.hid P2
  have hk : k ≤ 816 ∧ 0 < k ∧ k % 8 = 0 := by omega
  have hri : rightE 0 8192 k = true := by unfold rightE; simp; omega
  clear hB0 hC P1 P2 hq1 hd h1 h2
  go_enter Try.func6, Try.ntmps6
  go_wp2_with fail
  ((with_reducible refine HM.out.mono ?_); rintro x w1 ⟨e, p, p2, own1, rfl, hFE⟩)
  have hc : Blk (w1.alloc (.cells #[.pointer (some ⟨p, 0, none⟩), .pointer (some ⟨p2, 0, none⟩)] 27)) w1.heap.size 27 #[.pointer (some ⟨p, 0, none⟩), .pointer (some ⟨p2, 0, none⟩)] ∧ ext own1 w1 9 w1.heap.size = 9 := ⟨Blk.new w1 _ _, ext_new _ _ _ (Nat.le_refl _)⟩
  have hFE := hFE.alloc (.cells #[.pointer (some ⟨p, 0, none⟩), .pointer (some ⟨p2, 0, none⟩)] 27) 9
  have HT := Lib.hid hc
  obtain ⟨M, hM⟩ : ∃ M, cellsM 4 (fun _ => 0) [(0, 7), (1, 8), (2, 9)] = M := ⟨_, rfl⟩
  rw [hM] at hFE
  clear HM hM
  obtain ⟨W0, hW0⟩ : ∃ W0, w.alloc (.cells #[.int .i64 0, .int .u64 7, .int .i64 1, .int .u64 8, .int .i64 2, .int .u64 9] 47) = W0 := ⟨_, rfl⟩
  rw [hW0] at hFE HU0
  clear hW0
  go_wp2_with fail
  ((with_reducible refine (HP1.out _).mono ?_); rintro x wz ⟨rfl, rfl⟩)
  clear HP1
  go_wp2_with fail
  have HW := Lib.hid (hFE.writeL 8 8 rfl (by decide) 8 (by decide) (by decide) 8192 8192 rfl (by decide) true (by decide))
  clear hc hFE
  ((with_reducible refine HW.out.mono ?_); rintro x w2 ⟨rfl, own2, hS2, hFE⟩)
  have hc := hS2.blk HT.out.1 HT.out.2 (by decide)
  clear HT HW hS2
  have HT := Lib.hid hc
  have HW := Lib.hid (hFE.writeL 16 16 rfl (by decide) 8 (by decide) (by decide) k (k : Int) rfl (by omega) true (by decide))
  clear hc hFE
  go_wp2_with fail
  ((with_reducible refine HW.out.mono ?_); rintro x w3 ⟨rfl, own3, hS3, hFE⟩)
  have hc := hS3.blk HT.out.1 HT.out.2 (by decide)
  clear HT HW hS3
  have HT := Lib.hid hc
  have HW := Lib.hid (hFE.writeL 24 24 rfl (by decide) 4 (by decide) (by decide) 1 1 rfl (by decide) true (by decide))
  clear hc hFE
  go_wp2_with fail
  ((with_reducible refine HW.out.mono ?_); rintro x w4 ⟨rfl, own4, hS4, hFE⟩)
  have hc := hS4.blk HT.out.1 HT.out.2 (by decide)
  clear HT HW hS4
  have HT := Lib.hid hc
  rw [tellE2, wr24 _ 4 (.inl rfl)] at hFE
  have hFE : FE W0 own4 w4 e p p2 0 4 (begE 0 8192 k) M M := hFE
  have H4 := Lib.hid (show ∃ own' s m m2, FE W0 own' w4 e p p2 0 4 s m m2 ∧ CopyI 0 8192 k 0 s ∧ (Blk w4 w1.heap.size 27 #[.pointer (some ⟨p, 0, none⟩), .pointer (some ⟨p2, 0, none⟩)] ∧ own' w1.heap.size = 9) from ⟨_, _, _, _, hFE, CopyI.beg hri, hc⟩)
  generalize w1.heap.size = xb at *
  clear hc hFE HT hri
  go_wp2_with fail
  ((with_reducible refine (HP2.out _).mono ?_); rintro x wz ⟨rfl, rfl⟩)
  clear HP2
  go_wp2
  go_loopw [16] (fun i wr => ∃ (j : Nat), i = .int .i64 (j : Int) ∧ j ≤ d ∧ Hid (∃ own' s m m2, FE W0 own' wr e p p2 0 4 s m m2 ∧ CopyI 0 8192 k j s ∧ (Blk wr xb 27 #[.pointer (some ⟨p, 0, none⟩), .pointer (some ⟨p2, 0, none⟩)] ∧ own' xb = 9))) (fun i _ => d - (intOf i).toNat)
  case atStart => exact ⟨0, rfl, by omega, H4.out⟩
  case round =>
    rename World => wr
    obtain ⟨j, rfl, hj, HL⟩ := hrel
    clear H4
    obtain ⟨own7, s, m, m2, hFE, hI, hc⟩ := HL.out
    clear HL
    by_cases hlt : j < d
    · have hj1 : decide ((j : Int) < (d : Int)) = true := by simp; omega
      have hjk : 8 * j < k := by omega
      obtain ⟨hI2, hR⟩ := hI.step hjk hk.2.2 (fit_stop hk.1 hjk hk.2.2)
      have hSt := hFE.stepE
      rw [hR] at hSt
      have HSt := Lib.hid hSt
      have HI := Lib.hid hI2
      have HT := Lib.hid hc
      clear hFE hI hI2 hR hSt hc hjk
      go_wp2_with fail
      ((with_reducible refine HSt.out.mono ?_); rintro x w8 ⟨rfl, own8, hS8, hFE⟩)
      have hc := hS8.blk HT.out.1 HT.out.2 (by decide)
      have H8 := Lib.hid (show ∃ own' s m m2, FE W0 own' w8 e p p2 0 4 s m m2 ∧ CopyI 0 8192 k (j + 1) s ∧ (Blk w8 xb 27 #[.pointer (some ⟨p, 0, none⟩), .pointer (some ⟨p2, 0, none⟩)] ∧ own' xb = 9) from ⟨_, _, _, _, hFE, HI.out, hc⟩)
      clear HSt HI HT hS8 hFE hc
      go_wp2
      exact ⟨⟨j + 1, by go_num, by omega, H8.out⟩, by simp [intOf]; omega⟩
    · have hj1 : decide ((j : Int) < (d : Int)) = false := by simp; omega
      have hs : s.st = 1 := by rw [hI.st, if_pos (by omega)]
      have hwr := write_run hs off size v
      have h8 : s.rg 8 = 8192 := hI.r.r8
      have h16 : s.rg 16 = k := hI.r.r16
      have hW := hFE.write off hoff size hz.1 hz.2 v hv
      rw [hwr] at hW
      have HT := Lib.hid hc
      have HS := Lib.hid (And.intro hs (And.intro h8 h16))
      clear hwr hFE hI hc hs h8 h16 hj
      have hsv : ∀ bb : Bool, decide (v / 2 % 2 = 1) = bb → ((v : Int) / 2 % 2 == 1) = bb := by
        intro bb h
        rw [← h]
        by_cases hv : v / 2 % 2 = 1
        · rw [decide_eq_true hv]; simp; omega
        · rw [decide_eq_false hv]; simp; omega
      unfold stopE at hW
      obtain ⟨so, hso⟩ : ∃ so, ((off : Int) == 24) = so := ⟨_, rfl⟩
      obtain ⟨sb, hsb⟩ : ∃ sb, decide (v / 2 % 2 = 1) = sb := ⟨_, rfl⟩
      have hsv := hsv sb hsb
      rw [hso, hsb] at hW
      rcases (show size = 4 ∨ size = 8 ∨ (size ≠ 4 ∧ size ≠ 8) by omega) with rfl | rfl | ⟨hz4, hz8⟩
      · cases so with
        | true =>
          cases sb with
          | true =>
            have hW := hW
            simp only [show ((4 : Int) == 4) = true from rfl, show ((8 : Int) == 4) = false from rfl, show ((8 : Int) == 8) = true from rfl, Bool.true_or, Bool.and_true, Bool.true_and, Bool.and_false, Bool.false_and, Bool.or_false, Bool.false_or, if_true, if_false, Bool.false_eq_true] at hW
            have HW := Lib.hid hW
            clear hW
            go_wp2_with fail
            ((with_reducible refine HW.out.mono ?_); rintro x w8 ⟨rfl, own8, hS8, hFE⟩)
            have hc := hS8.blk HT.out.1 HT.out.2 (by decide)
            clear HW HT hS8
            have HRd := Lib.hid (hFE.readL 8 8 rfl (by decide) 8 (by decide) (by decide) 8192 8192 ((readE_8 _).trans HS.out.2.1) rfl true (by decide))
            have HT := Lib.hid hc
            clear hFE hc
            go_wp2_with fail
            ((with_reducible refine HRd.out.mono ?_); rintro x w9 ⟨rfl, own9, hS9, hFE⟩)
            have hc := hS9.blk HT.out.1 HT.out.2 (by decide)
            clear HRd HT hS9
            have HRd := Lib.hid (hFE.readL 16 16 rfl (by decide) 8 (by decide) (by decide) k (k : Int) ((readE_16 _).trans HS.out.2.2) rfl true (by decide))
            have HT := Lib.hid hc
            clear hFE hc
            go_wp2_with fail
            ((with_reducible refine HRd.out.mono ?_); rintro x w10 ⟨rfl, own10, hS10, hFE⟩)
            have hc := hS10.blk HT.out.1 HT.out.2 (by decide)
            clear HRd HT hS10
            have hBu := hFE.busy
            rw [show decide (({ s with st := 0 } : Eg).st = 1) = false from rfl] at hBu
            have HBu := Lib.hid hBu
            clear hBu
            have HCp := Lib.hid (ram_Copy (d := 5) hFE.mm (by decide))
            have x0 := hc.1.cell 0
            simp only [List.getElem?_toArray, List.getElem?_cons_zero, List.getElem?_cons_succ] at x0
            have HFE := Lib.hid (And.intro hFE hc)
            clear hFE hc
            go_wp2_with fail
            ((with_reducible refine HBu.out.mono ?_); rintro x wz ⟨rfl, rfl⟩)
            clear HBu
            go_wp2_with fail
            ((with_reducible refine HCp.out.mono ?_); rintro x w11 ⟨pc, own11, rfl, hS11, hMc⟩)
            have hFE := HFE.out.1.none_ hS11
            have hc := hS11.blk HFE.out.2.1 HFE.out.2.2 (fun h => h)
            have hSt := hFE.stepE
            have hi : ({ s with st := 0 } : Eg).st ≠ 1 := by show (0 : Nat) ≠ 1; decide
            rw [stepR_idle hi, stepS_idle hi, stepM_idle hi] at hSt
            have HSt := Lib.hid hSt
            have HT := Lib.hid (And.intro hc hMc)
            clear hFE hc hSt hMc HFE HCp hS11 x0
            go_wp2_with fail
            ((with_reducible refine HSt.out.mono ?_); rintro x w12 ⟨rfl, own12, hS12, hFE⟩)
            have hc := hS12.blk HT.out.1.1 HT.out.1.2 (by decide)
            have hMc := HT.out.2.step hS12 (by decide)
            have hBy := ram_Bytes' hMc 0 16384 6 (by decide) (by decide) 0 rfl
            rw [show ((16384 : Nat) : Int) = 16384 from rfl] at hBy
            have HBy := Lib.hid hBy
            have HT := Lib.hid (And.intro hFE hc)
            clear hFE hc hMc hBy HSt hS12
            go_wp2_with fail
            ((with_reducible refine HBy.out.mono ?_); rintro x w15 ⟨b1, own15, rfl, hS15, hob1, hBA⟩)
            have hFE := HT.out.1.none_ hS15
            have hc := hS15.blk HT.out.2.1 HT.out.2.2 (fun h => h)
            have x0 := hc.1.cell 0
            simp only [List.getElem?_toArray, List.getElem?_cons_zero, List.getElem?_cons_succ] at x0
            have hBy := ram_Bytes' hFE.mm 0 16384 7 (by decide) (by decide) 0 rfl
            rw [show ((16384 : Nat) : Int) = 16384 from rfl] at hBy
            have HB2 := Lib.hid hBy
            have HT := Lib.hid (And.intro hFE (And.intro hob1 hBA))
            clear hFE hc hBy hS15 hob1 hBA HBy
            go_wp2_with fail
            ((with_reducible refine HB2.out.mono ?_); rintro x w16 ⟨b2, own16, rfl, hS16, hob2, hBA2⟩)
            have hFE := HT.out.1.none_ hS16
            obtain ⟨cc, hBk, hcs, hcc⟩ := HT.out.2.2
            obtain ⟨k1, _⟩ := hS16.blk hBk HT.out.2.1 (fun h => h)
            have hSB := law_SameBytes (ca := 16384) (cb := 16384) (by decide) ⟨cc, k1, hcs, hcc⟩ hBA2 (fun _ _ => rfl)
            have HSB := Lib.hid hSB
            have HFE := Lib.hid hFE
            clear HB2 hS16 hob2 hBA2 hFE hBk hcs hcc k1 hSB x0
            go_wp2_with fail
            ((with_reducible refine HSB.out.mono ?_); rintro x w17 ⟨rfl, qk, rfl⟩)
            have H9 := Lib.hid (HU0.out.trans' (HFE.out.drewN qk).upd (fun _ _ e => e))
            clear HSB HFE HT
            go_wp2_with fail
            ((with_reducible refine (awake08 _).mono ?_); rintro x w13 ⟨rfl, hU13⟩)
            have HE := Lib.hid (H9.out.trans' hU13 (fun _ _ e => e))
            clear hU13 H9
            go_wp2
            go_ret
            exact ⟨rfl, HE.out⟩
          | false =>
            have hW := hW
            simp only [show ((4 : Int) == 4) = true from rfl, show ((8 : Int) == 4) = false from rfl, show ((8 : Int) == 8) = true from rfl, Bool.true_or, Bool.and_true, Bool.true_and, Bool.and_false, Bool.false_and, Bool.or_false, Bool.false_or, if_true, if_false, Bool.false_eq_true] at hW
            have HW := Lib.hid hW
            clear hW
            go_wp2_with fail
            ((with_reducible refine HW.out.mono ?_); rintro x w8 ⟨rfl, own8, hS8, hFE⟩)
            have hc := hS8.blk HT.out.1 HT.out.2 (by decide)
            clear HW HT hS8
            have HRd := Lib.hid (hFE.readL 8 8 rfl (by decide) 8 (by decide) (by decide) 8192 8192 ((readE_8 _).trans HS.out.2.1) rfl true (by decide))
            have HT := Lib.hid hc
            clear hFE hc
            go_wp2_with fail
            ((with_reducible refine HRd.out.mono ?_); rintro x w9 ⟨rfl, own9, hS9, hFE⟩)
            have hc := hS9.blk HT.out.1 HT.out.2 (by decide)
            clear HRd HT hS9
            have HRd := Lib.hid (hFE.readL 16 16 rfl (by decide) 8 (by decide) (by decide) k (k : Int) ((readE_16 _).trans HS.out.2.2) rfl true (by decide))
            have HT := Lib.hid hc
            clear hFE hc
            go_wp2_with fail
            ((with_reducible refine HRd.out.mono ?_); rintro x w10 ⟨rfl, own10, hS10, hFE⟩)
            have hc := hS10.blk HT.out.1 HT.out.2 (by decide)
            clear HRd HT hS10
            have hBu := hFE.busy
            rw [decide_eq_true HS.out.1] at hBu
            have HBu := Lib.hid hBu
            clear hBu
            have hW := hFE.writeL 24 24 rfl (by decide) 4 (by decide) (by decide) 2 2 rfl (by decide) true (by decide)
            rw [wr24 _ 4 (.inl rfl), cmd_stop HS.out.1] at hW
            have HW := Lib.hid hW
            clear hFE hc hW
            go_wp2_with fail
            ((with_reducible refine HBu.out.mono ?_); rintro x wz ⟨rfl, rfl⟩)
            clear HBu
            go_wp2_with fail
            ((with_reducible refine HW.out.mono ?_); rintro x w11 ⟨rfl, own11, hS11, hFE⟩)
            have hBu := hFE.busy
            rw [show decide (({ s with st := 0 } : Eg).st = 1) = false from rfl] at hBu
            have HBu := Lib.hid hBu
            have H9 := Lib.hid (HU0.out.trans' hFE.upd (fun _ _ e => e))
            clear hBu hFE hS11 HW
            go_wp2_with fail
            ((with_reducible refine HBu.out.mono ?_); rintro x wz ⟨rfl, rfl⟩)
            clear HBu
            go_wp2_with fail
            ((with_reducible refine (awake08 _).mono ?_); rintro x w13 ⟨rfl, hU13⟩)
            have HE := Lib.hid (H9.out.trans' hU13 (fun _ _ e => e))
            clear hU13 H9
            go_wp2
            go_ret
            exact ⟨rfl, HE.out⟩
        | false =>
          have hW := hW
          simp only [show ((4 : Int) == 4) = true from rfl, show ((8 : Int) == 4) = false from rfl, show ((8 : Int) == 8) = true from rfl, Bool.true_or, Bool.and_true, Bool.true_and, Bool.and_false, Bool.false_and, Bool.or_false, Bool.false_or, if_true, if_false, Bool.false_eq_true] at hW
          have HW := Lib.hid hW
          clear hW
          go_wp2_with fail
          ((with_reducible refine HW.out.mono ?_); rintro x w8 ⟨rfl, own8, hS8, hFE⟩)
          have hc := hS8.blk HT.out.1 HT.out.2 (by decide)
          clear HW HT hS8
          have HRd := Lib.hid (hFE.readL 8 8 rfl (by decide) 8 (by decide) (by decide) 8192 8192 ((readE_8 _).trans HS.out.2.1) rfl true (by decide))
          have HT := Lib.hid hc
          clear hFE hc
          go_wp2_with fail
          ((with_reducible refine HRd.out.mono ?_); rintro x w9 ⟨rfl, own9, hS9, hFE⟩)
          have hc := hS9.blk HT.out.1 HT.out.2 (by decide)
          clear HRd HT hS9
          have HRd := Lib.hid (hFE.readL 16 16 rfl (by decide) 8 (by decide) (by decide) k (k : Int) ((readE_16 _).trans HS.out.2.2) rfl true (by decide))
          have HT := Lib.hid hc
          clear hFE hc
          go_wp2_with fail
          ((with_reducible refine HRd.out.mono ?_); rintro x w10 ⟨rfl, own10, hS10, hFE⟩)
          have hc := hS10.blk HT.out.1 HT.out.2 (by decide)
          clear HRd HT hS10
          have hBu := hFE.busy
          rw [decide_eq_true HS.out.1] at hBu
          have HBu := Lib.hid hBu
          clear hBu
          have hW := hFE.writeL 24 24 rfl (by decide) 4 (by decide) (by decide) 2 2 rfl (by decide) true (by decide)
          rw [wr24 _ 4 (.inl rfl), cmd_stop HS.out.1] at hW
          have HW := Lib.hid hW
          clear hFE hc hW
          go_wp2_with fail
          ((with_reducible refine HBu.out.mono ?_); rintro x wz ⟨rfl, rfl⟩)
          clear HBu
          go_wp2_with fail
          ((with_reducible refine HW.out.mono ?_); rintro x w11 ⟨rfl, own11, hS11, hFE⟩)
          have hBu := hFE.busy
          rw [show decide (({ s with st := 0 } : Eg).st = 1) = false from rfl] at hBu
          have HBu := Lib.hid hBu
          have H9 := Lib.hid (HU0.out.trans' hFE.upd (fun _ _ e => e))
          clear hBu hFE hS11 HW
          go_wp2_with fail
          ((with_reducible refine HBu.out.mono ?_); rintro x wz ⟨rfl, rfl⟩)
          clear HBu
          go_wp2_with fail
          ((with_reducible refine (awake08 _).mono ?_); rintro x w13 ⟨rfl, hU13⟩)
          have HE := Lib.hid (H9.out.trans' hU13 (fun _ _ e => e))
          clear hU13 H9
          go_wp2
          go_ret
          exact ⟨rfl, HE.out⟩
      · cases so with
        | true =>
          cases sb with
          | true =>
            have hW := hW
            simp only [show ((4 : Int) == 4) = true from rfl, show ((8 : Int) == 4) = false from rfl, show ((8 : Int) == 8) = true from rfl, Bool.true_or, Bool.and_true, Bool.true_and, Bool.and_false, Bool.false_and, Bool.or_false, Bool.false_or, if_true, if_false, Bool.false_eq_true] at hW
            have HW := Lib.hid hW
            clear hW
            go_wp2_with fail
            ((with_reducible refine HW.out.mono ?_); rintro x w8 ⟨rfl, own8, hS8, hFE⟩)
            have hc := hS8.blk HT.out.1 HT.out.2 (by decide)
            clear HW HT hS8
            have HRd := Lib.hid (hFE.readL 8 8 rfl (by decide) 8 (by decide) (by decide) 8192 8192 ((readE_8 _).trans HS.out.2.1) rfl true (by decide))
            have HT := Lib.hid hc
            clear hFE hc
            go_wp2_with fail
            ((with_reducible refine HRd.out.mono ?_); rintro x w9 ⟨rfl, own9, hS9, hFE⟩)
            have hc := hS9.blk HT.out.1 HT.out.2 (by decide)
            clear HRd HT hS9
            have HRd := Lib.hid (hFE.readL 16 16 rfl (by decide) 8 (by decide) (by decide) k (k : Int) ((readE_16 _).trans HS.out.2.2) rfl true (by decide))
            have HT := Lib.hid hc
            clear hFE hc
            go_wp2_with fail
            ((with_reducible refine HRd.out.mono ?_); rintro x w10 ⟨rfl, own10, hS10, hFE⟩)
            have hc := hS10.blk HT.out.1 HT.out.2 (by decide)
            clear HRd HT hS10
            have hBu := hFE.busy
            rw [show decide (({ s with st := 0 } : Eg).st = 1) = false from rfl] at hBu
            have HBu := Lib.hid hBu
            clear hBu
            have HCp := Lib.hid (ram_Copy (d := 5) hFE.mm (by decide))
            have x0 := hc.1.cell 0
            simp only [List.getElem?_toArray, List.getElem?_cons_zero, List.getElem?_cons_succ] at x0
            have HFE := Lib.hid (And.intro hFE hc)
            clear hFE hc
            go_wp2_with fail
            ((with_reducible refine HBu.out.mono ?_); rintro x wz ⟨rfl, rfl⟩)
            clear HBu
            go_wp2_with fail
            ((with_reducible refine HCp.out.mono ?_); rintro x w11 ⟨pc, own11, rfl, hS11, hMc⟩)
            have hFE := HFE.out.1.none_ hS11
            have hc := hS11.blk HFE.out.2.1 HFE.out.2.2 (fun h => h)
            have hSt := hFE.stepE
            have hi : ({ s with st := 0 } : Eg).st ≠ 1 := by show (0 : Nat) ≠ 1; decide
            rw [stepR_idle hi, stepS_idle hi, stepM_idle hi] at hSt
            have HSt := Lib.hid hSt
            have HT := Lib.hid (And.intro hc hMc)
            clear hFE hc hSt hMc HFE HCp hS11 x0
            go_wp2_with fail
            ((with_reducible refine HSt.out.mono ?_); rintro x w12 ⟨rfl, own12, hS12, hFE⟩)
            have hc := hS12.blk HT.out.1.1 HT.out.1.2 (by decide)
            have hMc := HT.out.2.step hS12 (by decide)
            have hBy := ram_Bytes' hMc 0 16384 6 (by decide) (by decide) 0 rfl
            rw [show ((16384 : Nat) : Int) = 16384 from rfl] at hBy
            have HBy := Lib.hid hBy
            have HT := Lib.hid (And.intro hFE hc)
            clear hFE hc hMc hBy HSt hS12
            go_wp2_with fail
            ((with_reducible refine HBy.out.mono ?_); rintro x w15 ⟨b1, own15, rfl, hS15, hob1, hBA⟩)
            have hFE := HT.out.1.none_ hS15
            have hc := hS15.blk HT.out.2.1 HT.out.2.2 (fun h => h)
            have x0 := hc.1.cell 0
            simp only [List.getElem?_toArray, List.getElem?_cons_zero, List.getElem?_cons_succ] at x0
            have hBy := ram_Bytes' hFE.mm 0 16384 7 (by decide) (by decide) 0 rfl
            rw [show ((16384 : Nat) : Int) = 16384 from rfl] at hBy
            have HB2 := Lib.hid hBy
            have HT := Lib.hid (And.intro hFE (And.intro hob1 hBA))
            clear hFE hc hBy hS15 hob1 hBA HBy
            go_wp2_with fail
            ((with_reducible refine HB2.out.mono ?_); rintro x w16 ⟨b2, own16, rfl, hS16, hob2, hBA2⟩)
            have hFE := HT.out.1.none_ hS16
            obtain ⟨cc, hBk, hcs, hcc⟩ := HT.out.2.2
            obtain ⟨k1, _⟩ := hS16.blk hBk HT.out.2.1 (fun h => h)
            have hSB := law_SameBytes (ca := 16384) (cb := 16384) (by decide) ⟨cc, k1, hcs, hcc⟩ hBA2 (fun _ _ => rfl)
            have HSB := Lib.hid hSB
            have HFE := Lib.hid hFE
            clear HB2 hS16 hob2 hBA2 hFE hBk hcs hcc k1 hSB x0
            go_wp2_with fail
            ((with_reducible refine HSB.out.mono ?_); rintro x w17 ⟨rfl, qk, rfl⟩)
            have H9 := Lib.hid (HU0.out.trans' (HFE.out.drewN qk).upd (fun _ _ e => e))
            clear HSB HFE HT
            go_wp2_with fail
            ((with_reducible refine (awake08 _).mono ?_); rintro x w13 ⟨rfl, hU13⟩)
            have HE := Lib.hid (H9.out.trans' hU13 (fun _ _ e => e))
            clear hU13 H9
            go_wp2
            go_ret
            exact ⟨rfl, HE.out⟩
          | false =>
            have hW := hW
            simp only [show ((4 : Int) == 4) = true from rfl, show ((8 : Int) == 4) = false from rfl, show ((8 : Int) == 8) = true from rfl, Bool.true_or, Bool.and_true, Bool.true_and, Bool.and_false, Bool.false_and, Bool.or_false, Bool.false_or, if_true, if_false, Bool.false_eq_true] at hW
            have HW := Lib.hid hW
            clear hW
            go_wp2_with fail
            ((with_reducible refine HW.out.mono ?_); rintro x w8 ⟨rfl, own8, hS8, hFE⟩)
            have hc := hS8.blk HT.out.1 HT.out.2 (by decide)
            clear HW HT hS8
            have HRd := Lib.hid (hFE.readL 8 8 rfl (by decide) 8 (by decide) (by decide) 8192 8192 ((readE_8 _).trans HS.out.2.1) rfl true (by decide))
            have HT := Lib.hid hc
            clear hFE hc
            go_wp2_with fail
            ((with_reducible refine HRd.out.mono ?_); rintro x w9 ⟨rfl, own9, hS9, hFE⟩)
            have hc := hS9.blk HT.out.1 HT.out.2 (by decide)
            clear HRd HT hS9
            have HRd := Lib.hid (hFE.readL 16 16 rfl (by decide) 8 (by decide) (by decide) k (k : Int) ((readE_16 _).trans HS.out.2.2) rfl true (by decide))
            have HT := Lib.hid hc
            clear hFE hc
            go_wp2_with fail
            ((with_reducible refine HRd.out.mono ?_); rintro x w10 ⟨rfl, own10, hS10, hFE⟩)
            have hc := hS10.blk HT.out.1 HT.out.2 (by decide)
            clear HRd HT hS10
            have hBu := hFE.busy
            rw [decide_eq_true HS.out.1] at hBu
            have HBu := Lib.hid hBu
            clear hBu
            have hW := hFE.writeL 24 24 rfl (by decide) 4 (by decide) (by decide) 2 2 rfl (by decide) true (by decide)
            rw [wr24 _ 4 (.inl rfl), cmd_stop HS.out.1] at hW
            have HW := Lib.hid hW
            clear hFE hc hW
            go_wp2_with fail
            ((with_reducible refine HBu.out.mono ?_); rintro x wz ⟨rfl, rfl⟩)
            clear HBu
            go_wp2_with fail
            ((with_reducible refine HW.out.mono ?_); rintro x w11 ⟨rfl, own11, hS11, hFE⟩)
            have hBu := hFE.busy
            rw [show decide (({ s with st := 0 } : Eg).st = 1) = false from rfl] at hBu
            have HBu := Lib.hid hBu
            have H9 := Lib.hid (HU0.out.trans' hFE.upd (fun _ _ e => e))
            clear hBu hFE hS11 HW
            go_wp2_with fail
            ((with_reducible refine HBu.out.mono ?_); rintro x wz ⟨rfl, rfl⟩)
            clear HBu
            go_wp2_with fail
            ((with_reducible refine (awake08 _).mono ?_); rintro x w13 ⟨rfl, hU13⟩)
            have HE := Lib.hid (H9.out.trans' hU13 (fun _ _ e => e))
            clear hU13 H9
            go_wp2
            go_ret
            exact ⟨rfl, HE.out⟩
        | false =>
          have hW := hW
          simp only [show ((4 : Int) == 4) = true from rfl, show ((8 : Int) == 4) = false from rfl, show ((8 : Int) == 8) = true from rfl, Bool.true_or, Bool.and_true, Bool.true_and, Bool.and_false, Bool.false_and, Bool.or_false, Bool.false_or, if_true, if_false, Bool.false_eq_true] at hW
          have HW := Lib.hid hW
          clear hW
          go_wp2_with fail
          ((with_reducible refine HW.out.mono ?_); rintro x w8 ⟨rfl, own8, hS8, hFE⟩)
          have hc := hS8.blk HT.out.1 HT.out.2 (by decide)
          clear HW HT hS8
          have HRd := Lib.hid (hFE.readL 8 8 rfl (by decide) 8 (by decide) (by decide) 8192 8192 ((readE_8 _).trans HS.out.2.1) rfl true (by decide))
          have HT := Lib.hid hc
          clear hFE hc
          go_wp2_with fail
          ((with_reducible refine HRd.out.mono ?_); rintro x w9 ⟨rfl, own9, hS9, hFE⟩)
          have hc := hS9.blk HT.out.1 HT.out.2 (by decide)
          clear HRd HT hS9
          have HRd := Lib.hid (hFE.readL 16 16 rfl (by decide) 8 (by decide) (by decide) k (k : Int) ((readE_16 _).trans HS.out.2.2) rfl true (by decide))
          have HT := Lib.hid hc
          clear hFE hc
          go_wp2_with fail
          ((with_reducible refine HRd.out.mono ?_); rintro x w10 ⟨rfl, own10, hS10, hFE⟩)
          have hc := hS10.blk HT.out.1 HT.out.2 (by decide)
          clear HRd HT hS10
          have hBu := hFE.busy
          rw [decide_eq_true HS.out.1] at hBu
          have HBu := Lib.hid hBu
          clear hBu
          have hW := hFE.writeL 24 24 rfl (by decide) 4 (by decide) (by decide) 2 2 rfl (by decide) true (by decide)
          rw [wr24 _ 4 (.inl rfl), cmd_stop HS.out.1] at hW
          have HW := Lib.hid hW
          clear hFE hc hW
          go_wp2_with fail
          ((with_reducible refine HBu.out.mono ?_); rintro x wz ⟨rfl, rfl⟩)
          clear HBu
          go_wp2_with fail
          ((with_reducible refine HW.out.mono ?_); rintro x w11 ⟨rfl, own11, hS11, hFE⟩)
          have hBu := hFE.busy
          rw [show decide (({ s with st := 0 } : Eg).st = 1) = false from rfl] at hBu
          have HBu := Lib.hid hBu
          have H9 := Lib.hid (HU0.out.trans' hFE.upd (fun _ _ e => e))
          clear hBu hFE hS11 HW
          go_wp2_with fail
          ((with_reducible refine HBu.out.mono ?_); rintro x wz ⟨rfl, rfl⟩)
          clear HBu
          go_wp2_with fail
          ((with_reducible refine (awake08 _).mono ?_); rintro x w13 ⟨rfl, hU13⟩)
          have HE := Lib.hid (H9.out.trans' hU13 (fun _ _ e => e))
          clear hU13 H9
          go_wp2
          go_ret
          exact ⟨rfl, HE.out⟩
      · have z4 : (size == 4) = false := by simpa using hz4
        have z8 : (size == 8) = false := by simpa using hz8
        rw [z4, z8] at hW
        have hW := hW
        simp only [show ((4 : Int) == 4) = true from rfl, show ((8 : Int) == 4) = false from rfl, show ((8 : Int) == 8) = true from rfl, Bool.true_or, Bool.and_true, Bool.true_and, Bool.and_false, Bool.false_and, Bool.or_false, Bool.false_or, if_true, if_false, Bool.false_eq_true] at hW
        have HW := Lib.hid hW
        clear hW
        go_wp2_with fail
        ((with_reducible refine HW.out.mono ?_); rintro x w8 ⟨rfl, own8, hS8, hFE⟩)
        have hc := hS8.blk HT.out.1 HT.out.2 (by decide)
        clear HW HT hS8
        have HRd := Lib.hid (hFE.readL 8 8 rfl (by decide) 8 (by decide) (by decide) 8192 8192 ((readE_8 _).trans HS.out.2.1) rfl true (by decide))
        have HT := Lib.hid hc
        clear hFE hc
        go_wp2_with fail
        ((with_reducible refine HRd.out.mono ?_); rintro x w9 ⟨rfl, own9, hS9, hFE⟩)
        have hc := hS9.blk HT.out.1 HT.out.2 (by decide)
        clear HRd HT hS9
        have HRd := Lib.hid (hFE.readL 16 16 rfl (by decide) 8 (by decide) (by decide) k (k : Int) ((readE_16 _).trans HS.out.2.2) rfl true (by decide))
        have HT := Lib.hid hc
        clear hFE hc
        go_wp2_with fail
        ((with_reducible refine HRd.out.mono ?_); rintro x w10 ⟨rfl, own10, hS10, hFE⟩)
        have hc := hS10.blk HT.out.1 HT.out.2 (by decide)
        clear HRd HT hS10
        have hBu := hFE.busy
        rw [decide_eq_true HS.out.1] at hBu
        have HBu := Lib.hid hBu
        clear hBu
        have hW := hFE.writeL 24 24 rfl (by decide) 4 (by decide) (by decide) 2 2 rfl (by decide) true (by decide)
        rw [wr24 _ 4 (.inl rfl), cmd_stop HS.out.1] at hW
        have HW := Lib.hid hW
        clear hFE hc hW
        go_wp2_with fail
        ((with_reducible refine HBu.out.mono ?_); rintro x wz ⟨rfl, rfl⟩)
        clear HBu
        go_wp2_with fail
        ((with_reducible refine HW.out.mono ?_); rintro x w11 ⟨rfl, own11, hS11, hFE⟩)
        have hBu := hFE.busy
        rw [show decide (({ s with st := 0 } : Eg).st = 1) = false from rfl] at hBu
        have HBu := Lib.hid hBu
        have H9 := Lib.hid (HU0.out.trans' hFE.upd (fun _ _ e => e))
        clear hBu hFE hS11 HW
        go_wp2_with fail
        ((with_reducible refine HBu.out.mono ?_); rintro x wz ⟨rfl, rfl⟩)
        clear HBu
        go_wp2_with fail
        ((with_reducible refine (awake08 _).mono ?_); rintro x w13 ⟨rfl, hU13⟩)
        have HE := Lib.hid (H9.out.trans' hU13 (fun _ _ e => e))
        clear hU13 H9
        go_wp2
        go_ret
        exact ⟨rfl, HE.out⟩
theorem stops_callsI (w : World) (x1 x2 off size v : Int) (h1 : -9223372036854775808 ≤ x1 ∧ x1 ≤ 9223372036854775807) (h2 : -9223372036854775808 ≤ x2 ∧ x2 ≤ 9223372036854775807) (hoff : 0 ≤ off ∧ off ≤ 18446744073709551615) (hz : -9223372036854775808 ≤ size ∧ size ≤ 9223372036854775807) (hv : 0 ≤ v ∧ v ≤ 18446744073709551615) :
    Calls Try.prog 6 #[.int .i64 x1, .int .i64 x2, .int .u64 off, .int .i64 size, .int .u64 v] w fun x w' => x = .returned (.bool true) ∧ Upd (fun _ => False) w w' := by
  obtain ⟨off, rfl⟩ := Int.eq_ofNat_of_zero_le hoff.1
  obtain ⟨v, rfl⟩ := Int.eq_ofNat_of_zero_le hv.1
  exact stops_calls w x1 x2 off size v h1 h2 (by omega) hz (by omega)
end Go.Proofs.Ytonhlgfgbdiapaa
