import Derived.Test.YtonhlgfgbdiapaaEg8
import Derived.Test.YtonhlgfgbdiapaaMref5
import Derived.Test.YtonhlgfgbdiapaaPlace
/- EngineEnds: the walk. -/
namespace Go.Proofs.Ytonhlgfgbdiapaa
set_option linter.unusedVariables false
set_option linter.unusedSimpArgs false
open Go.RowKit
set_option maxRecDepth 100000
theorem readE_st4 {s : Eg} (h : s.st < 4) : readE s 32 4 = s.st := by
  have hf : fitsE 32 4 = true := by decide
  unfold readE regE
  rw [hf, if_pos rfl, if_neg (by decide)]
  show s.st / 2 ^ (8 * (32 % 8)) % 4294967296 = s.st
  rw [show (2 : Nat) ^ (8 * (32 % 8)) = 1 from rfl]
  omega
set_option maxHeartbeats 4000000 in
theorem ends_calls (w : World) (a0 b0 : Nat) (n : Int) (ha : a0 < 18446744073709551616) (hb : b0 < 18446744073709551616) (hn0 : -9223372036854775808 ≤ n) (hn1 : n ≤ 9223372036854775807) :
    Calls Try.prog 3 #[.int .u64 (a0 : Int), .int .u64 (b0 : Int), .int .i64 n] w fun x w' => x = .returned (.bool true) ∧ Upd (fun _ => False) w w' := by
  have HM := Lib.hid (flat08 w (.slice none 0 0) [] ⟨none, 0, rfl, fun h => absurd h (Nat.lt_irrefl 0)⟩ (by decide) (by intro x hx; cases hx))
  obtain ⟨q, hq⟩ : ∃ q : Nat, n % 512 = (q : Int) := ⟨(n % 512).toNat, by omega⟩
  have hq5 : q < 512 := by omega
  have P1 := fun w => place_calls n 512 w hn0 hn1 (by decide) (by decide)
  rw [hq] at P1
  have HP1 := Lib.hid P1
  obtain ⟨a, hA⟩ : ∃ a, a0 / 8 * 8 = a := ⟨_, rfl⟩
  obtain ⟨b, hB⟩ : ∃ b, b0 / 8 * 8 = b := ⟨_, rfl⟩
  obtain ⟨k, hK⟩ : ∃ k, 8 + 8 * q = k := ⟨_, rfl⟩
  have hAI : (a0 : Int) / 8 * 8 = (a : Int) := by omega
  have hBI : (b0 : Int) / 8 * 8 = (b : Int) := by omega
  have hKI : 8 + 8 * (q : Int) = (k : Int) := by omega
  have ha2 : a < 18446744073709551616 := by omega
  have hb2 : b < 18446744073709551616 := by omega
  have hk2 : 8 ≤ k ∧ k ≤ 4096 ∧ k % 8 = 0 := by omega
  have hri : rightE a b k = true := by unfold rightE; simp; omega
  clear P1 hq
  go_enter Try.func3, Try.ntmps3
  go_wp2_with fail
  ((with_reducible refine HM.out.mono ?_); rintro x w1 ⟨e, p, p2, own1, rfl, hFE⟩)
  have hc : Blk (w1.alloc (.cells #[.pointer (some ⟨p, 0, none⟩), .pointer (some ⟨p2, 0, none⟩)] 27)) w1.heap.size 27 #[.pointer (some ⟨p, 0, none⟩), .pointer (some ⟨p2, 0, none⟩)] ∧ ext own1 w1 9 w1.heap.size = 9 := ⟨Blk.new w1 _ _, ext_new _ _ _ (Nat.le_refl _)⟩
  have hFE := hFE.alloc (.cells #[.pointer (some ⟨p, 0, none⟩), .pointer (some ⟨p2, 0, none⟩)] 27) 9
  have HT := Lib.hid hc
  clear HM
  go_wp2_with fail
  ((with_reducible refine (HP1.out _).mono ?_); rintro x wz ⟨rfl, rfl⟩)
  clear HP1
  go_wp2_with fail

  clear hA hB hAI hBI hKI
  have HW := Lib.hid (hFE.writeL 0 0 rfl (by decide) 8 (by decide) (by decide) a (a : Int) rfl ha2 true (by decide))
  clear hc hFE
  ((with_reducible refine HW.out.mono ?_); rintro x w2 ⟨rfl, own2, hS2, hFE⟩)
  have hc := hS2.blk HT.out.1 HT.out.2 (by decide)
  clear HT HW hS2
  have HT := Lib.hid hc
  have HW := Lib.hid (hFE.writeL 8 8 rfl (by decide) 8 (by decide) (by decide) b (b : Int) rfl hb2 true (by decide))
  clear hc hFE
  go_wp2_with fail
  ((with_reducible refine HW.out.mono ?_); rintro x w3 ⟨rfl, own3, hS3, hFE⟩)
  have hc := hS3.blk HT.out.1 HT.out.2 (by decide)
  clear HT HW hS3
  have HT := Lib.hid hc
  have HW := Lib.hid (hFE.writeL 16 16 rfl (by decide) 8 (by decide) (by decide) k (k : Int) rfl (by omega) true (by decide))
  clear hc hFE
  go_wp2_with fail
  ((with_reducible refine HW.out.mono ?_); rintro x w4 ⟨rfl, own4, hS4, hFE⟩)
  have hc := hS4.blk HT.out.1 HT.out.2 (by decide)
  clear HT HW hS4
  have HT := Lib.hid hc
  have HW := Lib.hid (hFE.writeL 24 24 rfl (by decide) 4 (by decide) (by decide) 1 1 rfl (by decide) true (by decide))
  clear hc hFE
  go_wp2_with fail
  ((with_reducible refine HW.out.mono ?_); rintro x w5 ⟨rfl, own5, hS5, hFE⟩)
  have hc := hS5.blk HT.out.1 HT.out.2 (by decide)
  clear HT HW hS5
  have HT := Lib.hid hc
  rw [tellE, wr24 _ 4 (.inl rfl)] at hFE
  have hFE : FE w own5 w5 e p p2 0 4 (begE a b k) (cellsM 4 (fun _ => 0) []) (cellsM 4 (fun _ => 0) []) := hFE
  obtain ⟨M, hM⟩ : ∃ M, cellsM 4 (fun _ => 0) [] = M := ⟨_, rfl⟩
  rw [hM] at hFE
  have H5 := Lib.hid (show ∃ own' s m, FE w own' w5 e p p2 0 4 s m M ∧ EndI a b k 0 s from ⟨_, _, _, hFE, EndI.beg hri⟩)
  clear hM hc hFE HT hri
  go_wp2
  go_loopw [13] (fun i wr => ∃ (j : Nat), i = .int .u64 (j : Int) ∧ j ≤ 512 ∧ Hid (∃ own' s m, FE w own' wr e p p2 0 4 s m M ∧ EndI a b k j s)) (fun i _ => 600 - (intOf i).toNat)
  case atStart => exact ⟨0, rfl, by omega, H5.out⟩
  case round =>
    rename World => wr
    obtain ⟨j, rfl, hj, HL⟩ := hrel
    clear H5
    obtain ⟨own6, s, m, hFE, hI⟩ := HL.out
    have hBu := hFE.busy
    clear HL
    by_cases hs : s.st = 1
    · rw [decide_eq_true hs] at hBu
      have HBu := Lib.hid hBu
      have hlt := hI.lt hs
      have hj6 : decide ((j : Int) < 600) = true := by simp; omega
      have HSt := Lib.hid hFE.stepE
      have hI2 := Lib.hid (hI.step hs hk2.2.2)
      have hj5 : j < 512 := by omega
      clear hFE hI hBu hs hlt
      go_wp2_with fail
      ((with_reducible refine HBu.out.mono ?_); rintro x wz ⟨rfl, rfl⟩)
      clear HBu
      go_wp2_with fail
      ((with_reducible refine HSt.out.mono ?_); rintro x w7 ⟨rfl, own7, hS7, hFE⟩)
      have H7 := Lib.hid (show ∃ own' s m, FE w own' w7 e p p2 0 4 s m M ∧ EndI a b k (j + 1) s from ⟨_, _, _, hFE, hI2.out⟩)
      clear HSt hS7 hFE hI2
      go_wp2
      exact ⟨⟨j + 1, by go_num, by omega, H7.out⟩, by simp [intOf]; omega⟩
    · rw [decide_eq_false hs] at hBu
      obtain ⟨hjk, hdone⟩ := hI.done hs ha2 hb2 hk2
      have hst4 := hFE.ok.st
      obtain ⟨S, hS⟩ : ∃ S, s.st = S := ⟨_, rfl⟩
      have hRd := hFE.readL 32 32 rfl (by decide) 4 (by decide) (by decide) S (S : Int) (by rw [readE_st4 hst4, hS]) rfl true (by decide)
      have HBu := Lib.hid hBu
      have HRd := Lib.hid hRd
      have g1 : decide ((k : Int) / 8 < (j : Int)) = false := by simp; omega
      rw [hS] at hdone
      have HS := Lib.hid (And.intro hs hS)
      clear hFE hI hBu hs hRd hS hst4
      go_wp2_with fail
      ((with_reducible refine HBu.out.mono ?_); rintro x wz ⟨rfl, rfl⟩)
      clear HBu
      go_wp2_with fail
      ((with_reducible refine HRd.out.mono ?_); rintro x w7 ⟨rfl, own7, hS7, hFE⟩)
      have hBu := hFE.busy
      rw [decide_eq_false HS.out.1] at hBu
      have HBu := Lib.hid hBu
      have hSt := hFE.stepE
      rw [stepR_idle HS.out.1, stepS_idle HS.out.1, stepM_idle HS.out.1] at hSt
      have HSt := Lib.hid hSt
      clear hBu hFE hSt hS7 HRd
      rcases (show (a ≤ 16384 ∧ b ≤ 16384 ∧ k ≤ 16384 - a ∧ k ≤ 16384 - b ∧ S = 2 ∧ 8 * j = k) ∨ (S = 3 ∧ ¬ a ≤ 16384) ∨ (S = 3 ∧ a ≤ 16384 ∧ ¬ b ≤ 16384) ∨ (S = 3 ∧ a ≤ 16384 ∧ b ≤ 16384 ∧ ¬ k ≤ 16384 - a) ∨ (S = 3 ∧ a ≤ 16384 ∧ b ≤ 16384 ∧ k ≤ 16384 - a ∧ ¬ k ≤ 16384 - b) by
          rcases hdone with ⟨h1, h2, h3⟩ | ⟨h1, h2⟩
          · unfold fitsAll at h1
            have := of_decide_eq_true h1
            omega
          · unfold fitsAll at h1
            have := of_decide_eq_false h1
            omega) with ⟨f1, f2, f3, f4, rfl, h8⟩ | ⟨rfl, f1⟩ | ⟨rfl, f1, f2⟩ | ⟨rfl, f1, f2, f3⟩ | ⟨rfl, f1, f2, f3, f4⟩
      · have q1 : decide ((a : Int) ≤ 16384) = true := by simp; omega
        have q2 : decide ((b : Int) ≤ 16384) = true := by simp; omega
        have q3 : decide ((k : Int) ≤ 16384 - (a : Int)) = true := by simp; omega
        have q4 : decide ((k : Int) ≤ 16384 - (b : Int)) = true := by simp; omega
        have q5 : ((j : Int) != (k : Int) / 8) = false := by simp; omega
        go_wp2_with fail
        ((with_reducible refine HBu.out.mono ?_); rintro x wz ⟨rfl, rfl⟩)
        clear HBu
        go_wp2_with fail
        ((with_reducible refine HSt.out.mono ?_); rintro x w8 ⟨rfl, own8, hS8, hFE⟩)
        have hRd := hFE.readL 32 32 rfl (by decide) 4 (by decide) (by decide) 2 2 (by rw [readE_st4 hFE.ok.st, HS.out.2]) rfl true (by decide)
        have HRd := Lib.hid hRd
        clear HSt hS8 hFE hRd
        go_wp2_with fail
        ((with_reducible refine HRd.out.mono ?_); rintro x w9 ⟨rfl, own9, hS9, hFE⟩)
        have H9 := Lib.hid hFE.upd
        clear HRd hS9 hFE
        go_wp2_with fail
        ((with_reducible refine (awake08 _).mono ?_); rintro x w13 ⟨rfl, hU13⟩)
        have HE := Lib.hid (H9.out.trans' hU13 (fun _ _ e => e))
        clear hU13 H9
        go_wp2
        go_ret
        exact ⟨rfl, HE.out⟩
      · have q1 : decide ((a : Int) ≤ 16384) = false := by simp; omega
        go_wp2_with fail
        ((with_reducible refine HBu.out.mono ?_); rintro x wz ⟨rfl, rfl⟩)
        clear HBu
        go_wp2_with fail
        ((with_reducible refine HSt.out.mono ?_); rintro x w8 ⟨rfl, own8, hS8, hFE⟩)
        have hRd := hFE.readL 32 32 rfl (by decide) 4 (by decide) (by decide) 3 3 (by rw [readE_st4 hFE.ok.st, HS.out.2]) rfl true (by decide)
        have HRd := Lib.hid hRd
        clear HSt hS8 hFE hRd
        go_wp2_with fail
        ((with_reducible refine HRd.out.mono ?_); rintro x w9 ⟨rfl, own9, hS9, hFE⟩)
        have H9 := Lib.hid hFE.upd
        clear HRd hS9 hFE
        go_wp2_with fail
        ((with_reducible refine (awake08 _).mono ?_); rintro x w13 ⟨rfl, hU13⟩)
        have HE := Lib.hid (H9.out.trans' hU13 (fun _ _ e => e))
        clear hU13 H9
        go_wp2
        go_ret
        exact ⟨rfl, HE.out⟩
      · have q1 : decide ((a : Int) ≤ 16384) = true := by simp; omega
        have q2 : decide ((b : Int) ≤ 16384) = false := by simp; omega
        go_wp2_with fail
        ((with_reducible refine HBu.out.mono ?_); rintro x wz ⟨rfl, rfl⟩)
        clear HBu
        go_wp2_with fail
        ((with_reducible refine HSt.out.mono ?_); rintro x w8 ⟨rfl, own8, hS8, hFE⟩)
        have hRd := hFE.readL 32 32 rfl (by decide) 4 (by decide) (by decide) 3 3 (by rw [readE_st4 hFE.ok.st, HS.out.2]) rfl true (by decide)
        have HRd := Lib.hid hRd
        clear HSt hS8 hFE hRd
        go_wp2_with fail
        ((with_reducible refine HRd.out.mono ?_); rintro x w9 ⟨rfl, own9, hS9, hFE⟩)
        have H9 := Lib.hid hFE.upd
        clear HRd hS9 hFE
        go_wp2_with fail
        ((with_reducible refine (awake08 _).mono ?_); rintro x w13 ⟨rfl, hU13⟩)
        have HE := Lib.hid (H9.out.trans' hU13 (fun _ _ e => e))
        clear hU13 H9
        go_wp2
        go_ret
        exact ⟨rfl, HE.out⟩
      · have q1 : decide ((a : Int) ≤ 16384) = true := by simp; omega
        have q2 : decide ((b : Int) ≤ 16384) = true := by simp; omega
        have q3 : decide ((k : Int) ≤ 16384 - (a : Int)) = false := by simp; omega
        go_wp2_with fail
        ((with_reducible refine HBu.out.mono ?_); rintro x wz ⟨rfl, rfl⟩)
        clear HBu
        go_wp2_with fail
        ((with_reducible refine HSt.out.mono ?_); rintro x w8 ⟨rfl, own8, hS8, hFE⟩)
        have hRd := hFE.readL 32 32 rfl (by decide) 4 (by decide) (by decide) 3 3 (by rw [readE_st4 hFE.ok.st, HS.out.2]) rfl true (by decide)
        have HRd := Lib.hid hRd
        clear HSt hS8 hFE hRd
        go_wp2_with fail
        ((with_reducible refine HRd.out.mono ?_); rintro x w9 ⟨rfl, own9, hS9, hFE⟩)
        have H9 := Lib.hid hFE.upd
        clear HRd hS9 hFE
        go_wp2_with fail
        ((with_reducible refine (awake08 _).mono ?_); rintro x w13 ⟨rfl, hU13⟩)
        have HE := Lib.hid (H9.out.trans' hU13 (fun _ _ e => e))
        clear hU13 H9
        go_wp2
        go_ret
        exact ⟨rfl, HE.out⟩
      · have q1 : decide ((a : Int) ≤ 16384) = true := by simp; omega
        have q2 : decide ((b : Int) ≤ 16384) = true := by simp; omega
        have q3 : decide ((k : Int) ≤ 16384 - (a : Int)) = true := by simp; omega
        have q4 : decide ((k : Int) ≤ 16384 - (b : Int)) = false := by simp; omega
        go_wp2_with fail
        ((with_reducible refine HBu.out.mono ?_); rintro x wz ⟨rfl, rfl⟩)
        clear HBu
        go_wp2_with fail
        ((with_reducible refine HSt.out.mono ?_); rintro x w8 ⟨rfl, own8, hS8, hFE⟩)
        have hRd := hFE.readL 32 32 rfl (by decide) 4 (by decide) (by decide) 3 3 (by rw [readE_st4 hFE.ok.st, HS.out.2]) rfl true (by decide)
        have HRd := Lib.hid hRd
        clear HSt hS8 hFE hRd
        go_wp2_with fail
        ((with_reducible refine HRd.out.mono ?_); rintro x w9 ⟨rfl, own9, hS9, hFE⟩)
        have H9 := Lib.hid hFE.upd
        clear HRd hS9 hFE
        go_wp2_with fail
        ((with_reducible refine (awake08 _).mono ?_); rintro x w13 ⟨rfl, hU13⟩)
        have HE := Lib.hid (H9.out.trans' hU13 (fun _ _ e => e))
        clear hU13 H9
        go_wp2
        go_ret
        exact ⟨rfl, HE.out⟩
theorem ends_callsI (w : World) (a b n : Int) (ha : 0 ≤ a ∧ a ≤ 18446744073709551615) (hb : 0 ≤ b ∧ b ≤ 18446744073709551615) (hn : -9223372036854775808 ≤ n ∧ n ≤ 9223372036854775807) :
    Calls Try.prog 3 #[.int .u64 a, .int .u64 b, .int .i64 n] w fun x w' => x = .returned (.bool true) ∧ Upd (fun _ => False) w w' := by
  obtain ⟨a, rfl⟩ := Int.eq_ofNat_of_zero_le ha.1
  obtain ⟨b, rfl⟩ := Int.eq_ofNat_of_zero_le hb.1
  exact ends_calls w a b n (by omega) (by omega) hn.1 hn.2
end Go.Proofs.Ytonhlgfgbdiapaa
