import Derived.Test.YtonhlgfgbdiapaaEg8
import Derived.Test.YtonhlgfgbdiapaaMref5
/- EngineRefuses: the walk. -/
namespace Go.Proofs.Ytonhlgfgbdiapaa
set_option linter.unusedVariables false
set_option linter.unusedSimpArgs false
open Go.RowKit
set_option maxRecDepth 100000
set_option maxHeartbeats 4000000 in
theorem refuses_calls (w : World) (a b k : Nat) (ha : a < 18446744073709551616) (hb' : b < 18446744073709551616) (hk : k < 18446744073709551616) (v : Value) (cs : List (Int × Nat)) (hv : CellsAt w v cs) (hlen : cs.length ≤ 9223372036854775807) (hb : ∀ x ∈ cs, -9223372036854775808 ≤ x.1 ∧ x.1 ≤ 9223372036854775807 ∧ x.2 < 18446744073709551616) :
    Calls Try.prog 5 #[.int .u64 (a : Int), .int .u64 (b : Int), .int .u64 (k : Int), v] w fun x w' => x = .returned (.bool true) ∧ Upd (fun _ => False) w w' := by
  have HM := Lib.hid (flat08 w v cs hv hlen hb)
  obtain ⟨A0, cap0, rfl, _⟩ := hv
  clear hb hlen
  go_enter Try.func5, Try.ntmps5
  go_wp2_with fail
  ((with_reducible refine HM.out.mono ?_); rintro x w1 ⟨e, p, p2, own1, rfl, hFE⟩)
  have hc : Blk (w1.alloc (.cells #[.pointer (some ⟨p, 0, none⟩), .pointer (some ⟨p2, 0, none⟩)] 27)) w1.heap.size 27 #[.pointer (some ⟨p, 0, none⟩), .pointer (some ⟨p2, 0, none⟩)] ∧ ext own1 w1 9 w1.heap.size = 9 := ⟨Blk.new w1 _ _, ext_new _ _ _ (Nat.le_refl _)⟩
  have hFE := hFE.alloc (.cells #[.pointer (some ⟨p, 0, none⟩), .pointer (some ⟨p2, 0, none⟩)] 27) 9
  have HT := Lib.hid hc
  clear HM
  have HW := Lib.hid (hFE.writeL 0 0 rfl (by decide) 8 (by decide) (by decide) a (a : Int) rfl ha true (by decide))
  clear hc hFE
  go_wp2_with fail
  ((with_reducible refine HW.out.mono ?_); rintro x w2 ⟨rfl, own2, hS2, hFE⟩)
  have hc := hS2.blk HT.out.1 HT.out.2 (by decide)
  clear HT HW hS2
  have HT := Lib.hid hc
  have HW := Lib.hid (hFE.writeL 8 8 rfl (by decide) 8 (by decide) (by decide) b (b : Int) rfl hb' true (by decide))
  clear hc hFE
  go_wp2_with fail
  ((with_reducible refine HW.out.mono ?_); rintro x w3 ⟨rfl, own3, hS3, hFE⟩)
  have hc := hS3.blk HT.out.1 HT.out.2 (by decide)
  clear HT HW hS3
  have HT := Lib.hid hc
  have HW := Lib.hid (hFE.writeL 16 16 rfl (by decide) 8 (by decide) (by decide) k (k : Int) rfl hk true (by decide))
  clear hc hFE
  go_wp2_with fail
  ((with_reducible refine HW.out.mono ?_); rintro x w4 ⟨rfl, own4, hS4, hFE⟩)
  have hc := hS4.blk HT.out.1 HT.out.2 (by decide)
  clear HT HW hS4
  have HT := Lib.hid hc
  have HW := Lib.hid (hFE.writeL 24 24 rfl (by decide) 8 (by decide) (by decide) 1 1 rfl (by decide) true (by decide))
  clear hc hFE
  go_wp2_with fail
  ((with_reducible refine HW.out.mono ?_); rintro x w5 ⟨rfl, own5, hS5, hFE⟩)
  have hc := hS5.blk HT.out.1 HT.out.2 (by decide)
  clear HT HW hS5
  have HT := Lib.hid hc
  rw [tellE, wr24 _ 8 (.inr rfl)] at hFE
  have hFE : FE w own5 w5 e p p2 0 4 (begE a b k) (cellsM 4 (fun _ => 0) cs) (cellsM 4 (fun _ => 0) cs) := hFE
  obtain ⟨M, hM⟩ : ∃ M, cellsM 4 (fun _ => 0) cs = M := ⟨_, rfl⟩
  rw [hM] at hFE
  clear hM
  have x0 := hc.1.cell 0
  have x1 := hc.1.cell 1
  simp only [List.getElem?_toArray, List.getElem?_cons_zero, List.getElem?_cons_succ] at x0 x1
  generalize w1.heap.size = xb at *
  clear hc
  have hst := begE_st a b k
  by_cases hr : rightE a b k = true
  · rw [if_pos hr] at hst
    have hRd := hFE.readL 32 32 rfl (by decide) 8 (by decide) (by decide) 1 1 (by show (begE a b k).st = 1; exact hst) rfl true (by decide)
    unfold rightE at hr
    obtain ⟨n1, n2, n3, n4, n5⟩ := of_decide_eq_true hr
    have q1 : decide ((0 : Int) < (k : Int)) = true := by simp; omega
    have q2 : decide ((k : Int) ≤ 4096) = true := by simp; omega
    have q3 : ((k : Int) % 8 == 0) = true := by simp; omega
    have q4 : ((a : Int) % 8 == 0) = true := by simp; omega
    have q5 : ((b : Int) % 8 == 0) = true := by simp; omega
    have HRd := Lib.hid hRd
    clear hRd hFE hr x0 x1 n3 n4 n5
    go_wp2_with fail
    ((with_reducible refine HRd.out.mono ?_); rintro x w6 ⟨rfl, own6, hS6, hFE⟩)
    clear HRd hS6 HT
    have hBu := hFE.busy
    rw [decide_eq_true hst] at hBu
    have HBu := Lib.hid hBu
    have H9 := Lib.hid hFE.upd
    clear hFE hBu
    go_wp2_with fail
    ((with_reducible refine HBu.out.mono ?_); rintro x wz ⟨rfl, rfl⟩)
    clear HBu
    go_wp2_with fail
    ((with_reducible refine (awake08 _).mono ?_); rintro x w13 ⟨rfl, hU13⟩)
    have HE := Lib.hid (H9.out.trans' hU13 (fun _ _ e => e))
    clear hU13 H9
    go_wp2
    go_ret
    exact ⟨rfl, HE.out⟩
  · rw [if_neg hr] at hst
    have hst1 : (begE a b k).st ≠ 1 := by omega
    have hRd := hFE.readL 32 32 rfl (by decide) 8 (by decide) (by decide) 3 3 (by show (begE a b k).st = 3; exact hst) rfl true (by decide)
    unfold rightE at hr
    have hr : ¬ (0 < k ∧ k ≤ 4096 ∧ k % 8 = 0 ∧ a % 8 = 0 ∧ b % 8 = 0) := fun h => hr (decide_eq_true h)
    have HRd := Lib.hid hRd
    clear hRd hFE x0 x1
    rcases (show (¬ 0 < k) ∨ (0 < k ∧ ¬ k ≤ 4096) ∨ (0 < k ∧ k ≤ 4096 ∧ ¬ k % 8 = 0) ∨ (0 < k ∧ k ≤ 4096 ∧ k % 8 = 0 ∧ ¬ a % 8 = 0) ∨ (0 < k ∧ k ≤ 4096 ∧ k % 8 = 0 ∧ a % 8 = 0 ∧ ¬ b % 8 = 0) by omega) with h | ⟨h1, h⟩ | ⟨h1, h2, h⟩ | ⟨h1, h2, h3, h⟩ | ⟨h1, h2, h3, h4, h⟩
    · have q1 : decide ((0 : Int) < (k : Int)) = false := by simp; omega
      clear hr 
      go_wp2_with fail
      ((with_reducible refine HRd.out.mono ?_); rintro x w6 ⟨rfl, own6, hS6, hFE⟩)
      have hc := hS6.blk HT.out.1 HT.out.2 (by decide)
      clear HRd hS6 HT
      have hBu := hFE.busy
      rw [decide_eq_false hst1] at hBu
      have HBu := Lib.hid hBu
      have hSt := hFE.stepE
      rw [stepR_idle hst1, stepS_idle hst1, stepM_idle hst1] at hSt
      have HSt := Lib.hid hSt
      have HT := Lib.hid hc
      clear hFE hBu hSt hc
      go_wp2_with fail
      ((with_reducible refine HBu.out.mono ?_); rintro x wz ⟨rfl, rfl⟩)
      clear HBu
      go_wp2_with fail
      ((with_reducible refine HSt.out.mono ?_); rintro x w7 ⟨rfl, own7, hS7, hFE⟩)
      have hc := hS7.blk HT.out.1 HT.out.2 (by decide)
      clear HSt HT hS7
      have hSt := hFE.stepE
      rw [stepR_idle hst1, stepS_idle hst1, stepM_idle hst1] at hSt
      have HSt := Lib.hid hSt
      have HT := Lib.hid hc
      clear hFE hSt hc
      go_wp2_with fail
      ((with_reducible refine HSt.out.mono ?_); rintro x w8 ⟨rfl, own8, hS8, hFE⟩)
      have hc := hS8.blk HT.out.1 HT.out.2 (by decide)
      have x0 := hc.1.cell 0
      have x1 := hc.1.cell 1
      simp only [List.getElem?_toArray, List.getElem?_cons_zero, List.getElem?_cons_succ] at x0 x1
      have HSa := Lib.hid (two_Same hFE.mm hFE.mr)
      have HFE := Lib.hid hFE
      clear HSt HT hS8 hFE hc
      go_wp2_with fail
      ((with_reducible refine HSa.out.mono ?_); rintro x w9 ⟨rfl, own9, hS9⟩)
      have hFE := HFE.out.none_ hS9
      have hBu := hFE.busy
      rw [decide_eq_false hst1] at hBu
      have HBu := Lib.hid hBu
      have H9 := Lib.hid hFE.upd
      clear HSa HFE hFE hBu hS9 x0 x1
      go_wp2_with fail
      ((with_reducible refine HBu.out.mono ?_); rintro x wz ⟨rfl, rfl⟩)
      clear HBu
      go_wp2_with fail
      ((with_reducible refine (awake08 _).mono ?_); rintro x w13 ⟨rfl, hU13⟩)
      have HE := Lib.hid (H9.out.trans' hU13 (fun _ _ e => e))
      clear hU13 H9
      go_wp2
      go_ret
      exact ⟨rfl, HE.out⟩
    · have q1 : decide ((0 : Int) < (k : Int)) = true := by simp; omega
      have q2 : decide ((k : Int) ≤ 4096) = false := by simp; omega
      clear hr 
      go_wp2_with fail
      ((with_reducible refine HRd.out.mono ?_); rintro x w6 ⟨rfl, own6, hS6, hFE⟩)
      have hc := hS6.blk HT.out.1 HT.out.2 (by decide)
      clear HRd hS6 HT
      have hBu := hFE.busy
      rw [decide_eq_false hst1] at hBu
      have HBu := Lib.hid hBu
      have hSt := hFE.stepE
      rw [stepR_idle hst1, stepS_idle hst1, stepM_idle hst1] at hSt
      have HSt := Lib.hid hSt
      have HT := Lib.hid hc
      clear hFE hBu hSt hc
      go_wp2_with fail
      ((with_reducible refine HBu.out.mono ?_); rintro x wz ⟨rfl, rfl⟩)
      clear HBu
      go_wp2_with fail
      ((with_reducible refine HSt.out.mono ?_); rintro x w7 ⟨rfl, own7, hS7, hFE⟩)
      have hc := hS7.blk HT.out.1 HT.out.2 (by decide)
      clear HSt HT hS7
      have hSt := hFE.stepE
      rw [stepR_idle hst1, stepS_idle hst1, stepM_idle hst1] at hSt
      have HSt := Lib.hid hSt
      have HT := Lib.hid hc
      clear hFE hSt hc
      go_wp2_with fail
      ((with_reducible refine HSt.out.mono ?_); rintro x w8 ⟨rfl, own8, hS8, hFE⟩)
      have hc := hS8.blk HT.out.1 HT.out.2 (by decide)
      have x0 := hc.1.cell 0
      have x1 := hc.1.cell 1
      simp only [List.getElem?_toArray, List.getElem?_cons_zero, List.getElem?_cons_succ] at x0 x1
      have HSa := Lib.hid (two_Same hFE.mm hFE.mr)
      have HFE := Lib.hid hFE
      clear HSt HT hS8 hFE hc
      go_wp2_with fail
      ((with_reducible refine HSa.out.mono ?_); rintro x w9 ⟨rfl, own9, hS9⟩)
      have hFE := HFE.out.none_ hS9
      have hBu := hFE.busy
      rw [decide_eq_false hst1] at hBu
      have HBu := Lib.hid hBu
      have H9 := Lib.hid hFE.upd
      clear HSa HFE hFE hBu hS9 x0 x1
      go_wp2_with fail
      ((with_reducible refine HBu.out.mono ?_); rintro x wz ⟨rfl, rfl⟩)
      clear HBu
      go_wp2_with fail
      ((with_reducible refine (awake08 _).mono ?_); rintro x w13 ⟨rfl, hU13⟩)
      have HE := Lib.hid (H9.out.trans' hU13 (fun _ _ e => e))
      clear hU13 H9
      go_wp2
      go_ret
      exact ⟨rfl, HE.out⟩
    · have q1 : decide ((0 : Int) < (k : Int)) = true := by simp; omega
      have q2 : decide ((k : Int) ≤ 4096) = true := by simp; omega
      have q3 : ((k : Int) % 8 == 0) = false := by simp; omega
      clear hr h
      go_wp2_with fail
      ((with_reducible refine HRd.out.mono ?_); rintro x w6 ⟨rfl, own6, hS6, hFE⟩)
      have hc := hS6.blk HT.out.1 HT.out.2 (by decide)
      clear HRd hS6 HT
      have hBu := hFE.busy
      rw [decide_eq_false hst1] at hBu
      have HBu := Lib.hid hBu
      have hSt := hFE.stepE
      rw [stepR_idle hst1, stepS_idle hst1, stepM_idle hst1] at hSt
      have HSt := Lib.hid hSt
      have HT := Lib.hid hc
      clear hFE hBu hSt hc
      go_wp2_with fail
      ((with_reducible refine HBu.out.mono ?_); rintro x wz ⟨rfl, rfl⟩)
      clear HBu
      go_wp2_with fail
      ((with_reducible refine HSt.out.mono ?_); rintro x w7 ⟨rfl, own7, hS7, hFE⟩)
      have hc := hS7.blk HT.out.1 HT.out.2 (by decide)
      clear HSt HT hS7
      have hSt := hFE.stepE
      rw [stepR_idle hst1, stepS_idle hst1, stepM_idle hst1] at hSt
      have HSt := Lib.hid hSt
      have HT := Lib.hid hc
      clear hFE hSt hc
      go_wp2_with fail
      ((with_reducible refine HSt.out.mono ?_); rintro x w8 ⟨rfl, own8, hS8, hFE⟩)
      have hc := hS8.blk HT.out.1 HT.out.2 (by decide)
      have x0 := hc.1.cell 0
      have x1 := hc.1.cell 1
      simp only [List.getElem?_toArray, List.getElem?_cons_zero, List.getElem?_cons_succ] at x0 x1
      have HSa := Lib.hid (two_Same hFE.mm hFE.mr)
      have HFE := Lib.hid hFE
      clear HSt HT hS8 hFE hc
      go_wp2_with fail
      ((with_reducible refine HSa.out.mono ?_); rintro x w9 ⟨rfl, own9, hS9⟩)
      have hFE := HFE.out.none_ hS9
      have hBu := hFE.busy
      rw [decide_eq_false hst1] at hBu
      have HBu := Lib.hid hBu
      have H9 := Lib.hid hFE.upd
      clear HSa HFE hFE hBu hS9 x0 x1
      go_wp2_with fail
      ((with_reducible refine HBu.out.mono ?_); rintro x wz ⟨rfl, rfl⟩)
      clear HBu
      go_wp2_with fail
      ((with_reducible refine (awake08 _).mono ?_); rintro x w13 ⟨rfl, hU13⟩)
      have HE := Lib.hid (H9.out.trans' hU13 (fun _ _ e => e))
      clear hU13 H9
      go_wp2
      go_ret
      exact ⟨rfl, HE.out⟩
    · have q1 : decide ((0 : Int) < (k : Int)) = true := by simp; omega
      have q2 : decide ((k : Int) ≤ 4096) = true := by simp; omega
      have q3 : ((k : Int) % 8 == 0) = true := by simp; omega
      have q4 : ((a : Int) % 8 == 0) = false := by simp; omega
      clear hr h3 h
      go_wp2_with fail
      ((with_reducible refine HRd.out.mono ?_); rintro x w6 ⟨rfl, own6, hS6, hFE⟩)
      have hc := hS6.blk HT.out.1 HT.out.2 (by decide)
      clear HRd hS6 HT
      have hBu := hFE.busy
      rw [decide_eq_false hst1] at hBu
      have HBu := Lib.hid hBu
      have hSt := hFE.stepE
      rw [stepR_idle hst1, stepS_idle hst1, stepM_idle hst1] at hSt
      have HSt := Lib.hid hSt
      have HT := Lib.hid hc
      clear hFE hBu hSt hc
      go_wp2_with fail
      ((with_reducible refine HBu.out.mono ?_); rintro x wz ⟨rfl, rfl⟩)
      clear HBu
      go_wp2_with fail
      ((with_reducible refine HSt.out.mono ?_); rintro x w7 ⟨rfl, own7, hS7, hFE⟩)
      have hc := hS7.blk HT.out.1 HT.out.2 (by decide)
      clear HSt HT hS7
      have hSt := hFE.stepE
      rw [stepR_idle hst1, stepS_idle hst1, stepM_idle hst1] at hSt
      have HSt := Lib.hid hSt
      have HT := Lib.hid hc
      clear hFE hSt hc
      go_wp2_with fail
      ((with_reducible refine HSt.out.mono ?_); rintro x w8 ⟨rfl, own8, hS8, hFE⟩)
      have hc := hS8.blk HT.out.1 HT.out.2 (by decide)
      have x0 := hc.1.cell 0
      have x1 := hc.1.cell 1
      simp only [List.getElem?_toArray, List.getElem?_cons_zero, List.getElem?_cons_succ] at x0 x1
      have HSa := Lib.hid (two_Same hFE.mm hFE.mr)
      have HFE := Lib.hid hFE
      clear HSt HT hS8 hFE hc
      go_wp2_with fail
      ((with_reducible refine HSa.out.mono ?_); rintro x w9 ⟨rfl, own9, hS9⟩)
      have hFE := HFE.out.none_ hS9
      have hBu := hFE.busy
      rw [decide_eq_false hst1] at hBu
      have HBu := Lib.hid hBu
      have H9 := Lib.hid hFE.upd
      clear HSa HFE hFE hBu hS9 x0 x1
      go_wp2_with fail
      ((with_reducible refine HBu.out.mono ?_); rintro x wz ⟨rfl, rfl⟩)
      clear HBu
      go_wp2_with fail
      ((with_reducible refine (awake08 _).mono ?_); rintro x w13 ⟨rfl, hU13⟩)
      have HE := Lib.hid (H9.out.trans' hU13 (fun _ _ e => e))
      clear hU13 H9
      go_wp2
      go_ret
      exact ⟨rfl, HE.out⟩
    · have q1 : decide ((0 : Int) < (k : Int)) = true := by simp; omega
      have q2 : decide ((k : Int) ≤ 4096) = true := by simp; omega
      have q3 : ((k : Int) % 8 == 0) = true := by simp; omega
      have q4 : ((a : Int) % 8 == 0) = true := by simp; omega
      have q5 : ((b : Int) % 8 == 0) = false := by simp; omega
      clear hr h3 h4 h
      go_wp2_with fail
      ((with_reducible refine HRd.out.mono ?_); rintro x w6 ⟨rfl, own6, hS6, hFE⟩)
      have hc := hS6.blk HT.out.1 HT.out.2 (by decide)
      clear HRd hS6 HT
      have hBu := hFE.busy
      rw [decide_eq_false hst1] at hBu
      have HBu := Lib.hid hBu
      have hSt := hFE.stepE
      rw [stepR_idle hst1, stepS_idle hst1, stepM_idle hst1] at hSt
      have HSt := Lib.hid hSt
      have HT := Lib.hid hc
      clear hFE hBu hSt hc
      go_wp2_with fail
      ((with_reducible refine HBu.out.mono ?_); rintro x wz ⟨rfl, rfl⟩)
      clear HBu
      go_wp2_with fail
      ((with_reducible refine HSt.out.mono ?_); rintro x w7 ⟨rfl, own7, hS7, hFE⟩)
      have hc := hS7.blk HT.out.1 HT.out.2 (by decide)
      clear HSt HT hS7
      have hSt := hFE.stepE
      rw [stepR_idle hst1, stepS_idle hst1, stepM_idle hst1] at hSt
      have HSt := Lib.hid hSt
      have HT := Lib.hid hc
      clear hFE hSt hc
      go_wp2_with fail
      ((with_reducible refine HSt.out.mono ?_); rintro x w8 ⟨rfl, own8, hS8, hFE⟩)
      have hc := hS8.blk HT.out.1 HT.out.2 (by decide)
      have x0 := hc.1.cell 0
      have x1 := hc.1.cell 1
      simp only [List.getElem?_toArray, List.getElem?_cons_zero, List.getElem?_cons_succ] at x0 x1
      have HSa := Lib.hid (two_Same hFE.mm hFE.mr)
      have HFE := Lib.hid hFE
      clear HSt HT hS8 hFE hc
      go_wp2_with fail
      ((with_reducible refine HSa.out.mono ?_); rintro x w9 ⟨rfl, own9, hS9⟩)
      have hFE := HFE.out.none_ hS9
      have hBu := hFE.busy
      rw [decide_eq_false hst1] at hBu
      have HBu := Lib.hid hBu
      have H9 := Lib.hid hFE.upd
      clear HSa HFE hFE hBu hS9 x0 x1
      go_wp2_with fail
      ((with_reducible refine HBu.out.mono ?_); rintro x wz ⟨rfl, rfl⟩)
      clear HBu
      go_wp2_with fail
      ((with_reducible refine (awake08 _).mono ?_); rintro x w13 ⟨rfl, hU13⟩)
      have HE := Lib.hid (H9.out.trans' hU13 (fun _ _ e => e))
      clear hU13 H9
      go_wp2
      go_ret
      exact ⟨rfl, HE.out⟩
theorem refuses_callsI (w : World) (a b k : Int) (ha : 0 ≤ a ∧ a ≤ 18446744073709551615) (hb' : 0 ≤ b ∧ b ≤ 18446744073709551615) (hk : 0 ≤ k ∧ k ≤ 18446744073709551615) (v : Value) (cs : List (Int × Nat)) (hv : CellsAt w v cs) (hlen : cs.length ≤ maxLen) (hb : ∀ x ∈ cs, -9223372036854775808 ≤ x.1 ∧ x.1 ≤ 9223372036854775807 ∧ x.2 < 18446744073709551616) :
    Calls Try.prog 5 #[.int .u64 a, .int .u64 b, .int .u64 k, v] w fun x w' => x = .returned (.bool true) ∧ Upd (fun _ => False) w w' := by
  obtain ⟨a, rfl⟩ := Int.eq_ofNat_of_zero_le ha.1
  obtain ⟨b, rfl⟩ := Int.eq_ofNat_of_zero_le hb'.1
  obtain ⟨k, rfl⟩ := Int.eq_ofNat_of_zero_le hk.1
  exact refuses_calls w a b k (by omega) (by omega) (by omega) v cs hv (by unfold maxLen at hlen; omega) hb
end Go.Proofs.Ytonhlgfgbdiapaa
