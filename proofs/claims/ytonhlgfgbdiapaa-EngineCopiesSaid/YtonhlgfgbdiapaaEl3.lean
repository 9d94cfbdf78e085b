import Derived.Test.YtonhlgfgbdiapaaEg9
/- EngineCopies: the walk. -/
namespace Go.Proofs.Ytonhlgfgbdiapaa
set_option linter.unusedVariables false
set_option linter.unusedSimpArgs false
open Go.RowKit
set_option maxRecDepth 100000
set_option maxHeartbeats 4000000 in
theorem copies_calls (w : World) (v : Value) (cs : List (Int × Nat)) (hv : CellsAt w v cs) (hlen : cs.length ≤ 9223372036854775807) (hb : ∀ x ∈ cs, -9223372036854775808 ≤ x.1 ∧ x.1 ≤ 9223372036854775807 ∧ x.2 < 18446744073709551616) (x1 x2 x3 : Int) (h1 : -9223372036854775808 ≤ x1 ∧ x1 ≤ 9223372036854775807) (h2 : -9223372036854775808 ≤ x2 ∧ x2 ≤ 9223372036854775807) (h3 : -9223372036854775808 ≤ x3 ∧ x3 ≤ 9223372036854775807) :
    Calls Try.prog 4 #[v, .int .i64 x1, .int .i64 x2, .int .i64 x3] w fun x w' => x = .returned (.bool true) ∧ Upd (fun _ => False) w w' := by
  have hMm := law_MemoryC 6 (by decide) (by decide) (fun _ => 0) 1 2 (by decide) w v cs hv hlen hb
  rw [show ((6 : Nat) : Int) = 6 from rfl] at hMm
  obtain ⟨M0, hM0⟩ : ∃ M, cellsM 6 (fun _ => 0) cs = M := ⟨_, rfl⟩
  rw [hM0] at hMm
  have HM := Lib.hid hMm
  obtain ⟨A0, cap0, rfl, _⟩ := hv
  clear hb hlen hMm hM0
  obtain ⟨q1, hq1⟩ : ∃ q : Nat, x1 % 512 = (q : Int) := ⟨(x1 % 512).toNat, by omega⟩
  have hl1 : q1 < 512 := by omega
  have P1 := fun w => place_calls x1 512 w h1.1 h1.2 (by decide) (by decide)
  rw [hq1] at P1
  have HP1 := Lib.hid P1
  clear P1 hq1 h1
  obtain ⟨q2, hq2⟩ : ∃ q : Nat, x2 % 512 = (q : Int) := ⟨(x2 % 512).toNat, by omega⟩
  have hl2 : q2 < 512 := by omega
  have P2 := fun w => place_calls x2 512 w h2.1 h2.2 (by decide) (by decide)
  rw [hq2] at P2
  have HP2 := Lib.hid P2
  clear P2 hq2 h2
  obtain ⟨q3, hq3⟩ : ∃ q : Nat, x3 % 512 = (q : Int) := ⟨(x3 % 512).toNat, by omega⟩
  have hl3 : q3 < 512 := by omega
  have P3 := fun w => place_calls x3 512 w h3.1 h3.2 (by decide) (by decide)
  rw [hq3] at P3
  have HP3 := Lib.hid P3
  clear P3 hq3 h3
  obtain ⟨a, hA⟩ : ∃ a, 8 * q1 = a := ⟨_, rfl⟩
  obtain ⟨b, hB⟩ : ∃ b, 8192 + 8 * q2 = b := ⟨_, rfl⟩
  obtain ⟨k, hK⟩ : ∃ k, 8 + 8 * q3 = k := ⟨_, rfl⟩
  have hAI : 8 * (q1 : Int) = (a : Int) := by omega
  have hBI : 8192 + 8 * (q2 : Int) = (b : Int) := by omega
  have hKI : 8 + 8 * (q3 : Int) = (k : Int) := by omega
  have ha : a ≤ 4088 ∧ a % 8 = 0 := by omega
  have hb : 8192 ≤ b ∧ b ≤ 12280 ∧ b % 8 = 0 := by omega
  have hk : 8 ≤ k ∧ k ≤ 4096 ∧ k % 8 = 0 := by omega
  have hri : rightE a b k = true := by unfold rightE; simp; omega
  go_enter Try.func4, Try.ntmps4
  go_wp2_with fail
  ((with_reducible refine HM.out.mono ?_); rintro x w1 ⟨p, p2, own1, rfl, hS1, hm1, hm2⟩)
  have hS2 : Step (fun _ => False) own1 w1 (ext own1 w1 9) (w1.alloc (.cells #[.pointer (some ⟨p, 0, none⟩), .pointer (some ⟨p2, 0, none⟩)] 27)) := ⟨(Upd.refl _ _).alloc _, fun b hb => ext_old _ _ _ hb⟩
  have HF := Lib.hid (eng_Flat (ext own1 w1 9) 3 p (w1.alloc (.cells #[.pointer (some ⟨p, 0, none⟩), .pointer (some ⟨p2, 0, none⟩)] 27)))
  have H1 := Lib.hid (And.intro (hS1.trans hS2) (And.intro (hm1.step hS2 (fun h => h)) (And.intro (hm2.step hS2 (fun h => h)) (And.intro (Blk.new w1 27 #[.pointer (some ⟨p, 0, none⟩), .pointer (some ⟨p2, 0, none⟩)]) (show ext own1 w1 9 w1.heap.size = 9 from ext_new _ _ _ (Nat.le_refl _))))))
  clear hS1 hm1 hm2 hS2 HM
  go_wp2_with fail
  ((with_reducible refine HF.out.mono ?_); rintro x w2 ⟨e, own2, rfl, hS3, hE3⟩)
  have hc := hS3.blk H1.out.2.2.2.1 H1.out.2.2.2.2 (fun h => h)
  have hFE : FE w own2 w2 e p p2 0 6 eg0 M0 M0 := ⟨(H1.out.1.trans hS3).mono (fun _ h => h.elim), H1.out.2.1.step hS3 (fun h => h), H1.out.2.2.1.step hS3 (fun h => h), hE3, EgOk.init⟩
  have HT := Lib.hid hc
  generalize w1.heap.size = xb at *
  clear hS3 hE3 H1 HF
  go_wp2_with fail
  ((with_reducible refine (HP1.out _).mono ?_); rintro x wz ⟨rfl, rfl⟩)
  clear HP1
  go_wp2_with fail
  ((with_reducible refine (HP2.out _).mono ?_); rintro x wz ⟨rfl, rfl⟩)
  clear HP2
  go_wp2_with fail
  ((with_reducible refine (HP3.out _).mono ?_); rintro x wz ⟨rfl, rfl⟩)
  clear HP3
  go_wp2_with fail
  clear hA hB hK hAI hBI hKI
  have HW := Lib.hid (hFE.writeL 0 0 rfl (by decide) 8 (by decide) (by decide) a (a : Int) rfl (by omega) true (by decide))
  clear hc hFE
  ((with_reducible refine HW.out.mono ?_); rintro x w3 ⟨rfl, own3, hS3, hFE⟩)
  have hc := hS3.blk HT.out.1 HT.out.2 (by decide)
  clear HT HW hS3
  have HT := Lib.hid hc
  have HW := Lib.hid (hFE.writeL 8 8 rfl (by decide) 8 (by decide) (by decide) b (b : Int) rfl (by omega) true (by decide))
  clear hc hFE
  go_wp2_with fail
  ((with_reducible refine HW.out.mono ?_); rintro x w4 ⟨rfl, own4, hS4, hFE⟩)
  have hc := hS4.blk HT.out.1 HT.out.2 (by decide)
  clear HT HW hS4
  have HT := Lib.hid hc
  have HW := Lib.hid (hFE.writeL 16 16 rfl (by decide) 8 (by decide) (by decide) k (k : Int) rfl (by omega) true (by decide))
  clear hc hFE
  go_wp2_with fail
  ((with_reducible refine HW.out.mono ?_); rintro x w5 ⟨rfl, own5, hS5, hFE⟩)
  have hc := hS5.blk HT.out.1 HT.out.2 (by decide)
  clear HT HW hS5
  have HT := Lib.hid hc
  have HW := Lib.hid (hFE.writeL 24 24 rfl (by decide) 4 (by decide) (by decide) 1 1 rfl (by decide) true (by decide))
  clear hc hFE
  go_wp2_with fail
  ((with_reducible refine HW.out.mono ?_); rintro x w6 ⟨rfl, own6, hS6, hFE⟩)
  have hc := hS6.blk HT.out.1 HT.out.2 (by decide)
  clear HT HW hS6
  have HT := Lib.hid hc
  rw [tellE, wr24 _ 4 (.inl rfl)] at hFE
  have hFE : FE w own6 w6 e p p2 0 6 (begE a b k) M0 M0 := hFE
  have H6 := Lib.hid (show ∃ own' s m, FE w own' w6 e p p2 0 6 s m m ∧ CopyI a b k 0 s ∧ (Blk w6 xb 27 #[.pointer (some ⟨p, 0, none⟩), .pointer (some ⟨p2, 0, none⟩)] ∧ own' xb = 9) from ⟨_, _, _, hFE, CopyI.beg hri, hc⟩)
  clear hc hFE HT hri
  go_wp2
  go_loopw [15] (fun i wr => ∃ (j J : Nat), J = 8 * j ∧ i = .int .u64 (J : Int) ∧ J ≤ k ∧ Hid (∃ own' s m, FE w own' wr e p p2 0 6 s m m ∧ CopyI a b k j s ∧ (Blk wr xb 27 #[.pointer (some ⟨p, 0, none⟩), .pointer (some ⟨p2, 0, none⟩)] ∧ own' xb = 9))) (fun i _ => k - (intOf i).toNat)
  case atStart => exact ⟨0, 0, rfl, rfl, by omega, H6.out⟩
  case round =>
    rename World => wr
    obtain ⟨j, J, hJ, rfl, hj, HL⟩ := hrel
    have HJ := Lib.hid hJ
    clear H6
    obtain ⟨own7, s, m, hFE, hI, hc⟩ := HL.out
    clear HL
    by_cases hlt : J < k
    · have hj1 : decide ((J : Int) < (k : Int)) = true := by simp; omega
      have hf : fitJ 0 6 a b j = true := by
        unfold fitJ
        rw [Bool.and_eq_true, hasR_iff, hasR_iff]
        omega
      have hs : s.st = 1 := by rw [hI.st, if_pos (by omega)]
      obtain ⟨hI2, hR⟩ := hI.step (by omega) hk.2.2 hf
      have hm := run_mem m hI.r hs (hI.cp (by omega)) hf
      have ea : (((a + 8 * j) % 18446744073709551616 : Nat) : Int) = (a : Int) + (J : Int) := by omega
      have eb : (((b + 8 * j) % 18446744073709551616 : Nat) : Int) = (b : Int) + (J : Int) := by omega
      rw [ea, eb] at hm
      have hSt := hFE.stepE
      rw [hR, hm] at hSt
      have HSt := Lib.hid hSt
      have HI := Lib.hid hI2
      have hvb := rdR_bd 0 6 hFE.mr.bd ((a : Int) + (J : Int))
      obtain ⟨V, hV⟩ : ∃ V, (rdR 0 6 m ((a : Int) + (J : Int)) 8).1 = V := ⟨_, rfl⟩
      rw [hV] at HSt hvb
      have HV := Lib.hid hV
      have HT := Lib.hid hc
      have x1 := hc.1.cell 1
      simp only [List.getElem?_toArray, List.getElem?_cons_zero, List.getElem?_cons_succ] at x1
      clear hFE hI hI2 hR hSt hm ea eb hf hs hc hV hJ
      go_wp2_with fail
      ((with_reducible refine HSt.out.mono ?_); rintro x w8 ⟨rfl, own8, hS8, hFE⟩)
      have hc := hS8.blk HT.out.1 HT.out.2 (by decide)
      have hB8 := Blk.new w8 34 #[.int .i64 0, .int .i64 0]
      have hFE8 := hFE.alloc (.cells #[.int .i64 0, .int .i64 0] 34) 9
      have hSa : Step (fun _ => False) own8 w8 (ext own8 w8 9) (w8.alloc (.cells #[.int .i64 0, .int .i64 0] 34)) := ⟨(Upd.refl _ _).alloc _, fun b hb => ext_old _ _ _ hb⟩
      have hc2 := hSa.blk hc.1 hc.2 (fun h => h)
      have hBu := hFE8.busy
      obtain ⟨B, hB⟩ : ∃ B, decide ((stepS 0 6 s).st = 1) = B := ⟨_, rfl⟩
      have hB2 : decide ((J : Int) + 8 < (k : Int)) = B := by
        rw [← hB, HI.out.st]
        have := HJ.out
        by_cases hl : 8 * (j + 1) < k
        · rw [if_pos hl]; simp; omega
        · rw [if_neg hl]; simp; omega
      rw [hB] at hBu
      have HBu := Lib.hid hBu
      have m0 := hB8.cell 0
      have m1 := hB8.cell 1
      have x1 := hc2.1.cell 1
      simp only [List.getElem?_toArray, List.getElem?_cons_zero, List.getElem?_cons_succ] at m0 m1 x1
      have HFE := Lib.hid (And.intro hFE8 hc2)
      clear HSt HT hS8 hFE hc hB8 hFE8 hSa hc2 hBu hB
      go_wp2_with fail
      ((with_reducible refine HBu.out.mono ?_); rintro x wz ⟨rfl, rfl⟩)
      clear HBu m0 m1
      have hRd := HFE.out.1.readW ((a : Int) + (J : Int)) 8 (by omega) (by omega) (by decide) (by decide)
      rw [HV.out] at hRd
      have HRd := Lib.hid hRd
      clear hRd
      go_wp2_with fail
      ((with_reducible refine HRd.out.mono ?_); rintro x wz ⟨rfl, rfl⟩)
      have HWr := Lib.hid (HFE.out.1.writeW ((b : Int) + (J : Int)) 8 V (by omega) (by omega) (by decide) (by decide) hvb.1 hvb.2)
      clear HRd
      go_wp2_with fail
      ((with_reducible refine HWr.out.mono ?_); rintro x w9 ⟨rfl, own9, hS9, hFE⟩)
      have hc := hS9.blk HFE.out.2.1 HFE.out.2.2 (by decide)
      have H9 := Lib.hid (show ∃ own' s m, FE w own' w9 e p p2 0 6 s m m ∧ CopyI a b k (j + 1) s ∧ (Blk w9 xb 27 #[.pointer (some ⟨p, 0, none⟩), .pointer (some ⟨p2, 0, none⟩)] ∧ own' xb = 9) from ⟨_, _, _, hFE, HI.out, hc⟩)
      have hJ1 : J + 8 = 8 * (j + 1) := by have := HJ.out; omega
      have hJk : J + 8 ≤ k := by have := HJ.out; omega
      clear HWr hS9 hFE hc HFE x1
      go_wp2
      exact ⟨⟨j + 1, J + 8, hJ1, by go_num, hJk, H9.out⟩, by simp [intOf]; omega⟩
    · have hJk : J = k := by omega
      have hs : s.st = 2 := by rw [hI.st, if_neg (by have := HJ.out; omega)]
      have hRd := hFE.readL 32 32 rfl (by decide) 4 (by decide) (by decide) 2 2 (by rw [readE_st4 hFE.ok.st, hs]) rfl true (by decide)
      have hj1 : decide ((J : Int) < (k : Int)) = false := by simp; omega
      have HRd := Lib.hid hRd
      have HT := Lib.hid hc
      clear hRd hc hFE hI HJ hs hJk hJ
      go_wp2_with fail
      ((with_reducible refine HRd.out.mono ?_); rintro x w8 ⟨rfl, own8, hS8, hFE⟩)
      have hc := hS8.blk HT.out.1 HT.out.2 (by decide)
      have x0 := hc.1.cell 0
      have x1 := hc.1.cell 1
      simp only [List.getElem?_toArray, List.getElem?_cons_zero, List.getElem?_cons_succ] at x0 x1
      have HSa := Lib.hid (two_Same hFE.mm hFE.mr)
      have HFE := Lib.hid hFE
      clear HRd HT hS8 hFE hc
      go_wp2_with fail
      ((with_reducible refine HSa.out.mono ?_); rintro x w9 ⟨rfl, own9, hS9⟩)
      have H9 := Lib.hid (HFE.out.none_ hS9).upd
      clear HSa HFE hS9 x0 x1
      go_wp2_with fail
      ((with_reducible refine (awake08 _).mono ?_); rintro x w13 ⟨rfl, hU13⟩)
      have HE := Lib.hid (H9.out.trans' hU13 (fun _ _ e => e))
      clear hU13 H9
      go_wp2
      go_ret
      exact ⟨rfl, HE.out⟩
end Go.Proofs.Ytonhlgfgbdiapaa
